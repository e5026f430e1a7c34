/- Words for this claim: an evaluator of the program's functions, and what they come to. -/
import Derived.Test.YthknbnhchgbikaaQFx
import Derived.Test.YthknbnhchgbikaaQFz
import Derived.Test.YthknbnhchgbikaaQFv
import Derived.Test.YthknbnhchgbikaaAb2
set_option linter.all false
namespace Go.Ab
attribute [local simp] runFn args0 e_skip e_reg regC_some e_seq seqC_n seqC_e seqC_r e_cond condC_t condC_f e_block e_loop e_exit e_ret nextC_n nextC_e nextC_r nextK_n nextK_e nextK_r evReg evOps evOp wants fp St.ev St.get St.set St.sets St.put St.apply St.pre preK inB lk up del hits V.cells V.cellsG allPlain Cell.plain pure1 keysOf okUn noK Ev.apart meets mkV splice fillC binC unC mmC eqCs eqC resVs resV one export1 V.keys V.keys1 outKeys valsKeys cellsKeys Cell.keys Blk.keys elsKeys fpCall fpCallG noTup reach getAll outW newW names srcs capsOf onesOf slB rowsOf V.ren V.ren1 Cell.ren Loc.ren locsRen Blk.ren inR outR place nm St.sweep swept St.kill killR lmap delAll St.trim reachL expR ownGet b2i_le wrap_u64 wrap_i64 bits_u64 bits_i64 or_u64 and_u64 Int.fdiv_eq_ediv_of_nonneg word mmC hits
structure Bd.wf (b : Bd) : Prop where
  m : okI b.m
  r : okI b.r
  x : okI b.x
  y : okI b.y
  p : okI b.p
  q : okI b.q
  f : okI b.f
  a : okI b.a
  e : okI b.e
theorem from_may {x lo hi : Int} (k : okI x) (h : fromB x lo hi = true) : mayI x := by
  unfold fromB at h
  rw [Bool.and_eq_true] at h
  exact mayB_may k h.1
set_option maxRecDepth 20000 in
set_option maxHeartbeats 8000000 in
theorem R_maybody (D : Nat) (b : Bd) (k : b.wf) : ∃ v, evFun T (D+8) 47 [.agg b.row] [] = some (.c (.bool v), [], []) ∧ (v = true → b.ok) := by
  have i := E_rint (D+6) (n := 1048576) (by omega)
  have f1 := R_from (D+5) (lo := 281474976710656) (hi := 1048576 * 18446744073709551616) k.m (by unfold okI; omega) (by unfold okI; omega)
  rw [show (281474976710656 : Int) / 18446744073709551616 = 0 by omega, show (281474976710656 : Int) % 18446744073709551616 = 281474976710656 by omega, show (1048576 * 18446744073709551616 : Int) / 18446744073709551616 = 1048576 by omega, show (1048576 * 18446744073709551616 : Int) % 18446744073709551616 = 0 by omega] at f1
  have f2 := R_to (D+4) (m := 65536) k.r (by omega)
  have f3 := R_from (D+5) (lo := 0) (hi := b.m) k.f (by unfold okI; omega) k.m
  rw [show (0 : Int) / 18446744073709551616 = 0 by omega, show (0 : Int) % 18446744073709551616 = 0 by omega] at f3
  have f4 := R_to (D+4) (m := 65536) k.a (by omega)
  have f5 := R_to (D+4) (m := 65536) k.e (by omega)
  have f6 := R_mayvec (D+5) k.x k.y
  have f7 := R_mayvec (D+5) k.p k.q
  have a1 := from_may (lo := 281474976710656) (hi := 1048576 * 18446744073709551616) k.m
  have a3 := from_may (lo := 0) (hi := b.m) k.f
  have a6 : (mayB b.x && mayB b.y) = true → mayI b.x ∧ mayI b.y := fun h => by rw [Bool.and_eq_true] at h; exact ⟨mayB_may k.x h.1, mayB_may k.y h.2⟩
  have a7 : (mayB b.p && mayB b.q) = true → mayI b.p ∧ mayI b.q := fun h => by rw [Bool.and_eq_true] at h; exact ⟨mayB_may k.p h.1, mayB_may k.q h.2⟩
  have kx := k.x
  have ky := k.y
  generalize fromB b.m 281474976710656 (1048576 * 18446744073709551616) = c1 at *
  generalize fromB b.r 0 (65536 * 18446744073709551616) = c2 at *
  generalize fromB b.f 0 b.m = c3 at *
  generalize fromB b.a 0 (65536 * 18446744073709551616) = c4 at *
  generalize fromB b.e 0 (65536 * 18446744073709551616) = c5 at *
  generalize (mayB b.x && mayB b.y) = c6 at *
  generalize (mayB b.p && mayB b.q) = c7 at *
  cases c1
  · refine ⟨false, ?_, fun h => by simp at h⟩
    clear a1 a3 a6 a7
    rw [ev_fn T47]; (try simp only [Nat.add_assoc, Nat.reduceAdd] at i f1); obtain ⟨call, hcall⟩ : ∃ call, call = evFun T (D + 7) := ⟨_, rfl⟩; rw [← hcall] at i f1 ⊢; clear hcall; simp (maxSteps := 2000000) [ir47, Bd.row, i, f1]
  cases c2
  · refine ⟨false, ?_, fun h => by simp at h⟩
    clear a1 a3 a6 a7
    rw [ev_fn T47]; (try simp only [Nat.add_assoc, Nat.reduceAdd] at i f1 f2); obtain ⟨call, hcall⟩ : ∃ call, call = evFun T (D + 7) := ⟨_, rfl⟩; rw [← hcall] at i f1 f2 ⊢; clear hcall; simp (maxSteps := 2000000) [ir47, Bd.row, i, f1, f2]
  cases c3
  · refine ⟨false, ?_, fun h => by simp at h⟩
    clear a1 a3 a6 a7
    rw [ev_fn T47]; (try simp only [Nat.add_assoc, Nat.reduceAdd] at i f1 f2 f3); obtain ⟨call, hcall⟩ : ∃ call, call = evFun T (D + 7) := ⟨_, rfl⟩; rw [← hcall] at i f1 f2 f3 ⊢; clear hcall; simp (maxSteps := 2000000) [ir47, Bd.row, i, f1, f2, f3]
  cases c4
  · refine ⟨false, ?_, fun h => by simp at h⟩
    clear a1 a3 a6 a7
    rw [ev_fn T47]; (try simp only [Nat.add_assoc, Nat.reduceAdd] at i f1 f2 f3 f4); obtain ⟨call, hcall⟩ : ∃ call, call = evFun T (D + 7) := ⟨_, rfl⟩; rw [← hcall] at i f1 f2 f3 f4 ⊢; clear hcall; simp (maxSteps := 2000000) [ir47, Bd.row, i, f1, f2, f3, f4]
  cases c5
  · refine ⟨false, ?_, fun h => by simp at h⟩
    clear a1 a3 a6 a7
    rw [ev_fn T47]; (try simp only [Nat.add_assoc, Nat.reduceAdd] at i f1 f2 f3 f4 f5); obtain ⟨call, hcall⟩ : ∃ call, call = evFun T (D + 7) := ⟨_, rfl⟩; rw [← hcall] at i f1 f2 f3 f4 f5 ⊢; clear hcall; simp (maxSteps := 2000000) [ir47, Bd.row, i, f1, f2, f3, f4, f5]
  cases c6
  · refine ⟨false, ?_, fun h => by simp at h⟩
    clear a1 a3 a6 a7
    rw [ev_fn T47]; (try simp only [Nat.add_assoc, Nat.reduceAdd] at i f1 f2 f3 f4 f5 f6); obtain ⟨call, hcall⟩ : ∃ call, call = evFun T (D + 7) := ⟨_, rfl⟩; rw [← hcall] at i f1 f2 f3 f4 f5 f6 ⊢; clear hcall; simp (maxSteps := 2000000) [ir47, Bd.row, i, f1, f2, f3, f4, f5, f6]
  cases c7
  · refine ⟨false, ?_, fun h => by simp at h⟩
    clear a1 a3 a6 a7
    rw [ev_fn T47]; (try simp only [Nat.add_assoc, Nat.reduceAdd] at i f1 f2 f3 f4 f5 f6 f7); obtain ⟨call, hcall⟩ : ∃ call, call = evFun T (D + 7) := ⟨_, rfl⟩; rw [← hcall] at i f1 f2 f3 f4 f5 f6 f7 ⊢; clear hcall; simp (maxSteps := 2000000) [ir47, Bd.row, i, f1, f2, f3, f4, f5, f6, f7]
  have hok : b.ok := ⟨a1 rfl, (a6 rfl).1, (a6 rfl).2, (a7 rfl).1, (a7 rfl).2⟩
  have kf := a3 rfl
  clear a1 a3 a6 a7
  obtain ⟨sv, se, s⟩ := R_slow D b hok
  simp only [Bd.row] at s
  have sb := R_sub (D+1) (okM_may hok.1) (okM_may kf)
  have q := E_rcmp (D+6) (okM_may (fitN_may (b.m - b.f))).f (show okM 0 281474976710656 by unfold okM fv; omega).f
  simp only [fv_dm] at sb q
  obtain ⟨iv, ins⟩ := R_inside (D+4) kx ky
  obtain ⟨t1, w1⟩ := R_within (D+6) b.th 0 100
  obtain ⟨t2, w2⟩ := R_within (D+6) b.hd 0 65535
  generalize cmpI (fitN (b.m - b.f)) (fv 0 281474976710656) = C at *
  by_cases hC : 0 ≤ C
  · refine ⟨iv && (sv && (t1 && t2)), ?_, fun _ => hok⟩
    clear hok kf kx ky k
    cases iv
    · rw [ev_fn T47]; (try simp only [Nat.add_assoc, Nat.reduceAdd] at i f1 f2 f3 f4 f5 f6 f7 s sb q ins); obtain ⟨call, hcall⟩ : ∃ call, call = evFun T (D + 7) := ⟨_, rfl⟩; rw [← hcall] at i f1 f2 f3 f4 f5 f6 f7 s sb q ins ⊢; clear hcall; simp (maxSteps := 2000000) [ir47, Bd.row, i, f1, f2, f3, f4, f5, f6, f7, s, sb, q, hC, ins]
    · cases sv
      · rw [ev_fn T47]; (try simp only [Nat.add_assoc, Nat.reduceAdd] at i f1 f2 f3 f4 f5 f6 f7 s sb q ins); obtain ⟨call, hcall⟩ : ∃ call, call = evFun T (D + 7) := ⟨_, rfl⟩; rw [← hcall] at i f1 f2 f3 f4 f5 f6 f7 s sb q ins ⊢; clear hcall; simp (maxSteps := 2000000) [ir47, Bd.row, i, f1, f2, f3, f4, f5, f6, f7, s, sb, q, hC, ins]
      · cases t1
        · rw [ev_fn T47]; (try simp only [Nat.add_assoc, Nat.reduceAdd] at i f1 f2 f3 f4 f5 f6 f7 s sb q ins w1); obtain ⟨call, hcall⟩ : ∃ call, call = evFun T (D + 7) := ⟨_, rfl⟩; rw [← hcall] at i f1 f2 f3 f4 f5 f6 f7 s sb q ins w1 ⊢; clear hcall; simp (maxSteps := 2000000) [ir47, Bd.row, i, f1, f2, f3, f4, f5, f6, f7, s, sb, q, hC, ins, w1]
        · rw [ev_fn T47]; (try simp only [Nat.add_assoc, Nat.reduceAdd] at i f1 f2 f3 f4 f5 f6 f7 s sb q ins w1 w2); obtain ⟨call, hcall⟩ : ∃ call, call = evFun T (D + 7) := ⟨_, rfl⟩; rw [← hcall] at i f1 f2 f3 f4 f5 f6 f7 s sb q ins w1 w2 ⊢; clear hcall; simp (maxSteps := 2000000) [ir47, Bd.row, i, f1, f2, f3, f4, f5, f6, f7, s, sb, q, hC, ins, w1, w2]
  · refine ⟨false, ?_, fun h => by simp at h⟩
    clear hok kf kx ky k
    rw [ev_fn T47]; (try simp only [Nat.add_assoc, Nat.reduceAdd] at i f1 f2 f3 f4 f5 f6 f7 s sb q); obtain ⟨call, hcall⟩ : ∃ call, call = evFun T (D + 7) := ⟨_, rfl⟩; rw [← hcall] at i f1 f2 f3 f4 f5 f6 f7 s sb q ⊢; clear hcall; simp (maxSteps := 2000000) [ir47, Bd.row, i, f1, f2, f3, f4, f5, f6, f7, s, sb, q, hC]
set_option maxRecDepth 20000 in
set_option maxHeartbeats 8000000 in
theorem tall_ev (D : Nat) (A B l lim : Int) (a b : Bd) (ka : a.wf) (kb : b.wf) (kl : okI l) (klim : okI lim) :
    evFun T (D+12) 13 [.agg [.int .i64 A, .int .i64 B, .int .i64 ((l) / 18446744073709551616), .int .u64 ((l) % 18446744073709551616), .int .i64 ((lim) / 18446744073709551616), .int .u64 ((lim) % 18446744073709551616)], .agg a.row, .agg b.row] [] = some (.c (.bool true), [], []) := by
  have n1 := fun n => E_num (D+10) n
  have aw := ev_awake18 D
  obtain ⟨va, m1, oka⟩ := R_maybody (D+3) a ka
  obtain ⟨vb, m2, okb⟩ := R_maybody (D+3) b kb
  simp only [Bd.row] at m1 m2
  have m3 := R_mayB (D+10) kl
  have m4 := R_mayB (D+10) klim
  have i := E_rint (D+10) (n := 1073741824) (by omega)
  have q1 := E_rcmp (D+10) (okI_F kl) okM_z.f
  have q2 := E_rcmp (D+10) (okI_F kl) (okM_int (n := 1073741824) (by omega) (by omega)).f
  have q3 := E_rcmp (D+10) (okI_F klim) okM_z.f
  simp only [fv_dm] at q1 q2 q3
  generalize cmpI l (fv 0 0) = C1 at *
  generalize cmpI l (fv 1073741824 0) = C2 at *
  generalize cmpI lim (fv 0 0) = C3 at *
  cases va
  · clear oka okb
    rw [ev_fn T13]; (try simp only [Nat.add_assoc, Nat.reduceAdd] at aw m1); obtain ⟨call, hcall⟩ : ∃ call, call = evFun T (D + 11) := ⟨_, rfl⟩; rw [← hcall] at aw m1 ⊢; clear hcall; simp (maxSteps := 2000000) [ir13, Bd.row, aw, m1]
  cases vb
  · clear oka okb
    rw [ev_fn T13]; (try simp only [Nat.add_assoc, Nat.reduceAdd] at aw m1 m2); obtain ⟨call, hcall⟩ : ∃ call, call = evFun T (D + 11) := ⟨_, rfl⟩; rw [← hcall] at aw m1 m2 ⊢; clear hcall; simp (maxSteps := 2000000) [ir13, Bd.row, aw, m1, m2]
  cases h3 : mayB l
  · rw [h3] at m3
    clear oka okb
    rw [ev_fn T13]; (try simp only [Nat.add_assoc, Nat.reduceAdd] at aw m1 m2 m3); obtain ⟨call, hcall⟩ : ∃ call, call = evFun T (D + 11) := ⟨_, rfl⟩; rw [← hcall] at aw m1 m2 m3 ⊢; clear hcall; simp (maxSteps := 2000000) [ir13, Bd.row, aw, m1, m2, m3]
  rw [h3] at m3
  cases h4 : mayB lim
  · rw [h4] at m4
    clear oka okb
    rw [ev_fn T13]; (try simp only [Nat.add_assoc, Nat.reduceAdd] at aw m1 m2 m3 m4); obtain ⟨call, hcall⟩ : ∃ call, call = evFun T (D + 11) := ⟨_, rfl⟩; rw [← hcall] at aw m1 m2 m3 m4 ⊢; clear hcall; simp (maxSteps := 2000000) [ir13, Bd.row, aw, m1, m2, m3, m4]
  rw [h4] at m4
  by_cases g1 : C1 ≤ 0
  · clear oka okb
    rw [ev_fn T13]; (try simp only [Nat.add_assoc, Nat.reduceAdd] at aw m1 m2 m3 m4 q1); obtain ⟨call, hcall⟩ : ∃ call, call = evFun T (D + 11) := ⟨_, rfl⟩; rw [← hcall] at aw m1 m2 m3 m4 q1 ⊢; clear hcall; simp (maxSteps := 2000000) [ir13, Bd.row, aw, m1, m2, m3, m4, q1, g1]
  by_cases g2 : 0 < C2
  · clear oka okb
    rw [ev_fn T13]; (try simp only [Nat.add_assoc, Nat.reduceAdd] at aw i m1 m2 m3 m4 q1 q2); obtain ⟨call, hcall⟩ : ∃ call, call = evFun T (D + 11) := ⟨_, rfl⟩; rw [← hcall] at aw i m1 m2 m3 m4 q1 q2 ⊢; clear hcall; simp (maxSteps := 2000000) [ir13, Bd.row, aw, i, m1, m2, m3, m4, q1, g1, q2, g2]
  by_cases g3 : C3 < 0
  · clear oka okb
    rw [ev_fn T13]; (try simp only [Nat.add_assoc, Nat.reduceAdd] at aw i m1 m2 m3 m4 q1 q2 q3); obtain ⟨call, hcall⟩ : ∃ call, call = evFun T (D + 11) := ⟨_, rfl⟩; rw [← hcall] at aw i m1 m2 m3 m4 q1 q2 q3 ⊢; clear hcall; simp (maxSteps := 2000000) [ir13, Bd.row, aw, i, m1, m2, m3, m4, q1, g1, q2, g2, q3, g3]
  have j := E_jerk (D+1) A B a b (oka rfl) (okb rfl) (mayB_may kl h3) (mayB_may klim h4)
  have r := R_jerk (D+2) A B a b (oka rfl) (okb rfl) (mayB_may kl h3) (mayB_may klim h4)
  simp only [Bd.row] at j r
  generalize jerkS l lim a b = J at *
  clear oka okb ka kb kl klim h3 h4
  rw [ev_fn T13]; (try simp only [Nat.add_assoc, Nat.reduceAdd] at n1 aw i m1 m2 m3 m4 q1 q2 q3 j r); obtain ⟨call, hcall⟩ : ∃ call, call = evFun T (D + 11) := ⟨_, rfl⟩; rw [← hcall] at n1 aw i m1 m2 m3 m4 q1 q2 q3 j r ⊢; clear hcall; simp (maxSteps := 2000000) [ir13, Bd.row, n1, aw, i, m1, m2, m3, m4, q1, g1, q2, g2, q3, g3, j, r]
end Go.Ab

namespace Go.Ab
theorem wfC_fix {ks : List CK} {cs : List Cell} {i : Nat} {bs : List Blk} (h : wfCells (.int .i64 :: .int .u64 :: ks) cs i bs) : ∃ x r, okI x ∧ cs = .int .i64 (x / 18446744073709551616) :: .int .u64 (x % 18446744073709551616) :: r ∧ wfCells ks r i bs := by
  obtain ⟨a, r, rfl, h1, h2⟩ := wfC_int h
  obtain ⟨b, r', rfl, h3, h4⟩ := wfC_int h2
  have k1 := inK_i64 h1
  have k2 := inK_u64 h3
  refine ⟨a * 18446744073709551616 + b, r', ?_, ?_, h4⟩
  · unfold okI; omega
  · rw [show (a * 18446744073709551616 + b) / 18446744073709551616 = a by omega, show (a * 18446744073709551616 + b) % 18446744073709551616 = b by omega]
theorem wfA_body {r : List Par} {xs : List V} {i : Nat} {bs : List Blk} (h : wfArgs ((true, [.int .i64, .int .u64, .int .i64, .int .u64, .int .i64, .int .u64, .int .i64, .int .u64, .int .i64, .int .u64, .int .i64, .int .u64, .int .i64, .int .u64, .int .i64, .int .u64, .int .i64, .int .u64, .int .i64, .int .i64]) :: r) xs i bs) : ∃ (b : Bd) (ys : List V), b.wf ∧ xs = .agg b.row :: ys ∧ wfArgs r ys i bs := by
  obtain ⟨cs, ys, bs1, bs2, rfl, rfl, h1, h2⟩ := wfA_cons h
  obtain ⟨xm, r0, km, rfl, g0⟩ := wfC_fix h1
  obtain ⟨xr, r1, kr, rfl, g1⟩ := wfC_fix g0
  obtain ⟨xx, r2, kx, rfl, g2⟩ := wfC_fix g1
  obtain ⟨xy, r3, ky, rfl, g3⟩ := wfC_fix g2
  obtain ⟨xp, r4, kp, rfl, g4⟩ := wfC_fix g3
  obtain ⟨xq, r5, kq, rfl, g5⟩ := wfC_fix g4
  obtain ⟨xf, r6, kf, rfl, g6⟩ := wfC_fix g5
  obtain ⟨xa, r7, ka, rfl, g7⟩ := wfC_fix g6
  obtain ⟨xe, r8, ke, rfl, g8⟩ := wfC_fix g7
  obtain ⟨xt, ra, rfl, _, ga⟩ := wfC_int g8
  obtain ⟨xh, rb, rfl, _, gb⟩ := wfC_int ga
  obtain ⟨rfl, rfl⟩ := wfC_nil gb
  refine ⟨⟨xm, xr, xx, xy, xp, xq, xf, xa, xe, xt, xh⟩, ys, ⟨km, kr, kx, ky, kp, kq, kf, ka, ke⟩, rfl, by simpa using h2⟩
theorem wfA_tether {r : List Par} {xs : List V} {i : Nat} {bs : List Blk} (h : wfArgs ((true, [.int .i64, .int .i64, .int .i64, .int .u64, .int .i64, .int .u64]) :: r) xs i bs) : ∃ (A B l m : Int) (ys : List V), okI l ∧ okI m ∧ xs = .agg [.int .i64 A, .int .i64 B, .int .i64 (l / 18446744073709551616), .int .u64 (l % 18446744073709551616), .int .i64 (m / 18446744073709551616), .int .u64 (m % 18446744073709551616)] :: ys ∧ wfArgs r ys i bs := by
  obtain ⟨cs, ys, bs1, bs2, rfl, rfl, h1, h2⟩ := wfA_cons h
  obtain ⟨A, r1, rfl, _, g1⟩ := wfC_int h1
  obtain ⟨B, r2, rfl, _, g2⟩ := wfC_int g1
  obtain ⟨l, r3, kl, rfl, g3⟩ := wfC_fix g2
  obtain ⟨m, r4, km, rfl, g4⟩ := wfC_fix g3
  obtain ⟨rfl, rfl⟩ := wfC_nil g4
  exact ⟨A, B, l, m, ys, kl, km, rfl, by simpa using h2⟩
theorem tall_pure (args : List V) (out : List Blk) (h : wfArgs [(true, [.int .i64, .int .i64, .int .i64, .int .u64, .int .i64, .int .u64]), (true, [.int .i64, .int .u64, .int .i64, .int .u64, .int .i64, .int .u64, .int .i64, .int .u64, .int .i64, .int .u64, .int .i64, .int .u64, .int .i64, .int .u64, .int .i64, .int .u64, .int .i64, .int .u64, .int .i64, .int .i64]), (true, [.int .i64, .int .u64, .int .i64, .int .u64, .int .i64, .int .u64, .int .i64, .int .u64, .int .i64, .int .u64, .int .i64, .int .u64, .int .i64, .int .u64, .int .i64, .int .u64, .int .i64, .int .u64, .int .i64, .int .i64])] args 0 out) : ∃ os news, evFun T 12 13 args out = some (.c (.bool true), os, news) := by
  obtain ⟨A, B, l, m, r, kl, km, e0, h1⟩ := wfA_tether h
  obtain ⟨a, r2, ka, e1, h2⟩ := wfA_body h1
  obtain ⟨b, r3, kb, e2, h3⟩ := wfA_body h2
  obtain ⟨e3, e4⟩ := wfA_nil h3
  rw [e0, e1, e2, e3, e4]
  exact ⟨_, _, tall_ev 0 A B l m a b ka kb kl km⟩
end Go.Ab

/- Words for this claim: an evaluator of the program's functions, and what they come to. -/
import Derived.Test.YthknbnhchgbikaaPFn
import Derived.Test.YthknbnhchgbikaaAb5
import Derived.Test.YthknbnhchgbikaaPFi
set_option linter.all false
namespace Go.Ab
attribute [local simp] runFn args0 e_skip e_reg regC_some e_seq seqC_n seqC_e seqC_r e_cond condC_t condC_f e_block e_loop e_exit e_ret nextC_n nextC_e nextC_r nextK_n nextK_e nextK_r evReg evOps evOp wants fp St.ev St.get St.set St.sets St.put St.apply St.pre preK inB lk up del hits V.cells V.cellsG allPlain Cell.plain pure1 keysOf okUn noK Ev.apart meets mkV splice fillC binC unC mmC eqCs eqC resVs resV one export1 V.keys V.keys1 outKeys valsKeys cellsKeys Cell.keys Blk.keys elsKeys fpCall fpCallG noTup reach getAll outW newW names srcs capsOf onesOf slB rowsOf V.ren V.ren1 Cell.ren Loc.ren locsRen Blk.ren inR outR place nm St.sweep swept St.kill killR lmap delAll St.trim reachL expR ownGet b2i_le wrap_u64 wrap_i64 bits_u64 bits_i64 or_u64 and_u64 Int.fdiv_eq_ediv_of_nonneg word mmC hits
def pullV (g a b x y eps h : Int) : V := .agg [.int .i64 (pullX g a b x y eps h / 18446744073709551616), .int .u64 (pullX g a b x y eps h % 18446744073709551616), .int .i64 (pullY g a b x y eps h / 18446744073709551616), .int .u64 (pullY g a b x y eps h % 18446744073709551616), .int .i64 (pullE g a b x y eps h)]
theorem pullV_err {g a b x y eps h e : Int} (hk : (pullK g a b (len2N x y) (len2E x y) eps h).e = e) (he : e ≠ 0) : pullV g a b x y eps h = .agg [.int .i64 0, .int .u64 0, .int .i64 0, .int .u64 0, .int .i64 e] := by
  obtain ⟨h1, h2, h3⟩ := pull_err hk he
  unfold pullV
  rw [h1, h2, h3]; rfl
theorem rootI_okM {x : Int} (h : x < 170141183460469231731687303715884105728) : okM (rootI x / 18446744073709551616) (rootI x % 18446744073709551616) := by
  have := rootI_may x h
  exact okM_of (by omega)
theorem bne_of {x : Int} (h : x ≠ 0) : (x != 0) = true := by simpa using h
set_option maxHeartbeats 4000000 in
theorem R_pull (D : Nat) {g1 g2 a1 a2 b1 b2 x1 x2 y1 y2 s1 s2 h1 h2 : Int} (kg : okM g1 g2) (ka : okM a1 a2) (kb : okM b1 b2) (kx : okM x1 x2) (ky : okM y1 y2) (ks : okM s1 s2) (kh : okM h1 h2) :
    evFun T (D+8) 34 [.agg [.int .i64 g1, .int .u64 g2], .agg [.int .i64 a1, .int .u64 a2], .agg [.int .i64 b1, .int .u64 b2], .agg [.int .i64 x1, .int .u64 x2, .int .i64 y1, .int .u64 y2], .agg [.int .i64 s1, .int .u64 s2], .agg [.int .i64 h1, .int .u64 h2]] [] =
      some (pullV (fv g1 g2) (fv a1 a2) (fv b1 b2) (fv x1 x2) (fv y1 y2) (fv s1 s2) (fv h1 h2), [], []) := by
  have l := R_len2 D kx ky
  have c1 := R_mul (D+2) ks ks
  have kn := okM_len2N (fv x1 x2) (fv y1 y2)
  have c2 := R_add (D+2) kn (okM_fit (mulI (fv s1 s2) (fv s1 s2)))
  have c4 := R_mul (D+2) ka kb
  have c5 := R_mul (D+2) kg (okM_fit (mulI (fv a1 a2) (fv b1 b2)))
  rw [fv_dm, fv_dm] at c2
  rw [fv_dm] at c5
  by_cases q0 : len2E (fv x1 x2) (fv y1 y2) = 0
  rotate_left
  · have e := bne_of q0
    rw [pullV_err (pk0 _ _ _ _ _ _ _ q0) q0]
    clear q0 c1 c2 c4 c5
    rw [ev_fn T34]; (try simp only [Nat.add_assoc, Nat.reduceAdd] at l); obtain ⟨call, hcall⟩ : ∃ call, call = evFun T (D + 7) := ⟨_, rfl⟩; rw [← hcall] at l ⊢; clear hcall; simp (maxSteps := 2000000) [ir34, l, e]
  have hk : ∀ e, (pullK (fv g1 g2) (fv a1 a2) (fv b1 b2) (len2N (fv x1 x2) (fv y1 y2)) 0 (fv s1 s2) (fv h1 h2)).e = e → e ≠ 0 → pullV (fv g1 g2) (fv a1 a2) (fv b1 b2) (fv x1 x2) (fv y1 y2) (fv s1 s2) (fv h1 h2) = .agg [.int .i64 0, .int .u64 0, .int .i64 0, .int .u64 0, .int .i64 e] := fun e h1 h2 => pullV_err (by rw [q0]; exact h1) h2
  have hg := pull_got (g := fv g1 g2) (a := fv a1 a2) (b := fv b1 b2) (x := fv x1 x2) (y := fv y1 y2) (eps := fv s1 s2) (h := fv h1 h2)
  rw [q0] at l hg
  by_cases q1 : fitE (mulI (fv s1 s2) (fv s1 s2)) = 0
  rotate_left
  · have e := bne_of q1
    rw [hk _ (pk1 _ _ _ _ _ _ q1) q1]
    clear q1 c2 c4 c5 hk hg
    rw [ev_fn T34]; (try simp only [Nat.add_assoc, Nat.reduceAdd] at l c1); obtain ⟨call, hcall⟩ : ∃ call, call = evFun T (D + 7) := ⟨_, rfl⟩; rw [← hcall] at l c1 ⊢; clear hcall; simp (maxSteps := 2000000) [ir34, l, c1, e]
  rw [q1, fitN_of q1] at c1
  rw [fitN_of q1] at c2
  by_cases q2 : fitE (len2N (fv x1 x2) (fv y1 y2) + mulI (fv s1 s2) (fv s1 s2)) = 0
  rotate_left
  · have e := bne_of q2
    rw [hk _ (pk2 _ _ _ _ _ _ q1 q2) q2]
    clear q1 q2 c4 c5 hk hg
    rw [ev_fn T34]; (try simp only [Nat.add_assoc, Nat.reduceAdd] at l c1 c2); obtain ⟨call, hcall⟩ : ∃ call, call = evFun T (D + 7) := ⟨_, rfl⟩; rw [← hcall] at l c1 c2 ⊢; clear hcall; simp (maxSteps := 2000000) [ir34, l, c1, c2, e]
  have k2 := okM_of (fitE_iff.1 q2)
  have lt2 := (fitE_iff.1 q2).2
  have c3 := R_sqrt (D+2) k2
  rw [fv_dm] at c3
  rw [q2, fitN_of q2] at c2
  by_cases q3 : rootE (len2N (fv x1 x2) (fv y1 y2) + mulI (fv s1 s2) (fv s1 s2)) = 0
  rotate_left
  · have e := bne_of q3
    rw [hk _ (pk3 _ _ _ _ _ _ q1 q2 q3) q3]
    clear q1 q2 q3 c4 c5 hk hg
    rw [ev_fn T34]; (try simp only [Nat.add_assoc, Nat.reduceAdd] at l c1 c2 c3); obtain ⟨call, hcall⟩ : ∃ call, call = evFun T (D + 7) := ⟨_, rfl⟩; rw [← hcall] at l c1 c2 c3 ⊢; clear hcall; simp (maxSteps := 2000000) [ir34, l, c1, c2, c3, e]
  rw [q3] at c3
  by_cases q4 : fitE (mulI (fv a1 a2) (fv b1 b2)) = 0
  rotate_left
  · have e := bne_of q4
    rw [hk _ (pk4 _ _ _ _ _ _ q1 q2 q3 q4) q4]
    clear q1 q2 q3 q4 c5 hk hg
    rw [ev_fn T34]; (try simp only [Nat.add_assoc, Nat.reduceAdd] at l c1 c2 c3 c4); obtain ⟨call, hcall⟩ : ∃ call, call = evFun T (D + 7) := ⟨_, rfl⟩; rw [← hcall] at l c1 c2 c3 c4 ⊢; clear hcall; simp (maxSteps := 2000000) [ir34, l, c1, c2, c3, c4, e]
  rw [fitN_of q4] at c5
  rw [q4, fitN_of q4] at c4
  by_cases q5 : fitE (mulI (fv g1 g2) (mulI (fv a1 a2) (fv b1 b2))) = 0
  rotate_left
  · have e := bne_of q5
    rw [hk _ (pk5 _ _ _ _ _ _ q1 q2 q3 q4 q5) q5]
    clear q1 q2 q3 q4 q5 hk hg
    rw [ev_fn T34]; (try simp only [Nat.add_assoc, Nat.reduceAdd] at l c1 c2 c3 c4 c5); obtain ⟨call, hcall⟩ : ∃ call, call = evFun T (D + 7) := ⟨_, rfl⟩; rw [← hcall] at l c1 c2 c3 c4 c5 ⊢; clear hcall; simp (maxSteps := 2000000) [ir34, l, c1, c2, c3, c4, c5, e]
  have c6 := R_mul (D+2) (okM_of (fitE_iff.1 q5)) kh
  rw [fv_dm] at c6
  rw [q5, fitN_of q5] at c5
  by_cases q6 : fitE (mulI (mulI (fv g1 g2) (mulI (fv a1 a2) (fv b1 b2))) (fv h1 h2)) = 0
  rotate_left
  · have e := bne_of q6
    rw [hk _ (pk6 _ _ _ _ _ _ q1 q2 q3 q4 q5 q6) q6]
    clear q1 q2 q3 q4 q5 q6 hk hg
    rw [ev_fn T34]; (try simp only [Nat.add_assoc, Nat.reduceAdd] at l c1 c2 c3 c4 c5 c6); obtain ⟨call, hcall⟩ : ∃ call, call = evFun T (D + 7) := ⟨_, rfl⟩; rw [← hcall] at l c1 c2 c3 c4 c5 c6 ⊢; clear hcall; simp (maxSteps := 2000000) [ir34, l, c1, c2, c3, c4, c5, c6, e]
  have c7 := R_div (D+2) (okM_of (fitE_iff.1 q6)) k2
  rw [fv_dm, fv_dm] at c7
  rw [q6, fitN_of q6] at c6
  by_cases q7 : divE (mulI (mulI (fv g1 g2) (mulI (fv a1 a2) (fv b1 b2))) (fv h1 h2)) (len2N (fv x1 x2) (fv y1 y2) + mulI (fv s1 s2) (fv s1 s2)) = 0
  rotate_left
  · have e := bne_of q7
    rw [hk _ (pk7 _ _ _ _ _ _ q1 q2 q3 q4 q5 q6 q7) q7]
    clear q1 q2 q3 q4 q5 q6 q7 hk hg
    rw [ev_fn T34]; (try simp only [Nat.add_assoc, Nat.reduceAdd] at l c1 c2 c3 c4 c5 c6 c7); obtain ⟨call, hcall⟩ : ∃ call, call = evFun T (D + 7) := ⟨_, rfl⟩; rw [← hcall] at l c1 c2 c3 c4 c5 c6 c7 ⊢; clear hcall; simp (maxSteps := 2000000) [ir34, l, c1, c2, c3, c4, c5, c6, c7, e]
  obtain ⟨p1, p2⟩ := pk8 (fv g1 g2) (fv a1 a2) (fv b1 b2) (len2N (fv x1 x2) (fv y1 y2)) (fv s1 s2) (fv h1 h2) q1 q2 q3 q4 q5 q6 q7
  rw [if_pos q7] at p2
  have c8 := R_div (D+2) (okM_fit (divI (mulI (mulI (fv g1 g2) (mulI (fv a1 a2) (fv b1 b2))) (fv h1 h2)) (len2N (fv x1 x2) (fv y1 y2) + mulI (fv s1 s2) (fv s1 s2)))) (rootI_okM lt2)
  rw [fv_dm, fv_dm] at c8
  rw [q7] at c7
  by_cases q8 : divE (fitN (divI (mulI (mulI (fv g1 g2) (mulI (fv a1 a2) (fv b1 b2))) (fv h1 h2)) (len2N (fv x1 x2) (fv y1 y2) + mulI (fv s1 s2) (fv s1 s2)))) (rootI (len2N (fv x1 x2) (fv y1 y2) + mulI (fv s1 s2) (fv s1 s2))) = 0
  rotate_left
  · have e := bne_of q8
    rw [hk _ p1 q8]
    clear q1 q2 q3 q4 q5 q6 q7 q8 hk hg p1 p2
    rw [ev_fn T34]; (try simp only [Nat.add_assoc, Nat.reduceAdd] at l c1 c2 c3 c4 c5 c6 c7 c8); obtain ⟨call, hcall⟩ : ∃ call, call = evFun T (D + 7) := ⟨_, rfl⟩; rw [← hcall] at l c1 c2 c3 c4 c5 c6 c7 c8 ⊢; clear hcall; simp (maxSteps := 2000000) [ir34, l, c1, c2, c3, c4, c5, c6, c7, c8, e]
  have c9 := R_scale (D+1) kx ky (okM_fit (divI (fitN (divI (mulI (mulI (fv g1 g2) (mulI (fv a1 a2) (fv b1 b2))) (fv h1 h2)) (len2N (fv x1 x2) (fv y1 y2) + mulI (fv s1 s2) (fv s1 s2)))) (rootI (len2N (fv x1 x2) (fv y1 y2) + mulI (fv s1 s2) (fv s1 s2)))))
  rw [fv_dm] at c9
  rw [q8] at c8
  obtain ⟨r1, r2, r3⟩ := hg (p1.trans q8)
  rw [p2] at r1 r2 r3
  unfold pullV
  rw [r1, r2, r3]
  clear q1 q2 q3 q4 q5 q6 q7 q8 hk hg p1 p2 r1 r2 r3
  rw [ev_fn T34]; (try simp only [Nat.add_assoc, Nat.reduceAdd] at l c1 c2 c3 c4 c5 c6 c7 c8 c9); obtain ⟨call, hcall⟩ : ∃ call, call = evFun T (D + 7) := ⟨_, rfl⟩; rw [← hcall] at l c1 c2 c3 c4 c5 c6 c7 c8 c9 ⊢; clear hcall; simp (maxSteps := 2000000) [ir34, l, c1, c2, c3, c4, c5, c6, c7, c8, c9]
end Go.Ab

namespace Go.Ab
attribute [local simp] runFn args0 e_skip e_reg regC_some e_seq seqC_n seqC_e seqC_r e_cond condC_t condC_f e_block e_loop e_exit e_ret nextC_n nextC_e nextC_r nextK_n nextK_e nextK_r evReg evOps evOp wants fp St.ev St.get St.set St.sets St.put St.apply St.pre preK inB lk up del hits V.cells V.cellsG allPlain Cell.plain pure1 keysOf okUn noK Ev.apart meets mkV splice fillC binC unC mmC eqCs eqC resVs resV one export1 V.keys V.keys1 outKeys valsKeys cellsKeys Cell.keys Blk.keys elsKeys fpCall fpCallG noTup reach getAll outW newW names srcs capsOf onesOf slB rowsOf V.ren V.ren1 Cell.ren Loc.ren locsRen Blk.ren inR outR place nm St.sweep swept St.kill killR lmap delAll St.trim reachL expR ownGet b2i_le wrap_u64 wrap_i64 bits_u64 bits_i64 or_u64 and_u64 Int.fdiv_eq_ediv_of_nonneg word mmC hits
def rpE (g eps h : Int) (a : Bd) (m x y : Int) : Int := if bothE (x - a.x) (y - a.y) ≠ 0 then bothE (x - a.x) (y - a.y) else pullE g a.m m (both1 (x - a.x) (y - a.y)) (both1 (y - a.y) (x - a.x)) eps h
def rpX (g eps h : Int) (a : Bd) (m x y : Int) : Int := if bothE (x - a.x) (y - a.y) ≠ 0 then 0 else pullX g a.m m (both1 (x - a.x) (y - a.y)) (both1 (y - a.y) (x - a.x)) eps h
def rpY (g eps h : Int) (a : Bd) (m x y : Int) : Int := if bothE (x - a.x) (y - a.y) ≠ 0 then 0 else pullY g a.m m (both1 (x - a.x) (y - a.y)) (both1 (y - a.y) (x - a.x)) eps h
theorem rpX_ok (g eps h : Int) (a : Bd) (m x y : Int) : okM (rpX g eps h a m x y / 18446744073709551616) (rpX g eps h a m x y % 18446744073709551616) := by
  unfold rpX; split
  · exact okM_z
  · exact okM_pullX _ _ _ _ _ _ _
theorem rpY_ok (g eps h : Int) (a : Bd) (m x y : Int) : okM (rpY g eps h a m x y / 18446744073709551616) (rpY g eps h a m x y % 18446744073709551616) := by
  unfold rpY; split
  · exact okM_z
  · exact okM_pullY _ _ _ _ _ _ _
theorem R_pulledA (D : Nat) (w : Wn) (bs : List Bd) (ats : List (List Cell)) (n2 i : Nat) (a : Bd) (m x y h : Int) (hi : bs[i]? = some a) (ka : a.ok) (km : mayI m) (kx : mayI x) (ky : mayI y) (kg : mayI w.g) (ke : mayI w.eps) (kh : mayI h) :
    evFun T (D+9) 69 [wA w bs.length n2, .c (.int .i64 i), .agg [.int .i64 (m / 18446744073709551616), .int .u64 (m % 18446744073709551616)], .agg [.int .i64 (x / 18446744073709551616), .int .u64 (x % 18446744073709551616), .int .i64 (y / 18446744073709551616), .int .u64 (y % 18446744073709551616)], .agg [.int .i64 (h / 18446744073709551616), .int .u64 (h % 18446744073709551616)]] (oA bs ats) =
      some (.agg [.int .i64 (rpX w.g w.eps h a m x y / 18446744073709551616), .int .u64 (rpX w.g w.eps h a m x y % 18446744073709551616), .int .i64 (rpY w.g w.eps h a m x y / 18446744073709551616), .int .u64 (rpY w.g w.eps h a m x y % 18446744073709551616), .int .i64 (rpE w.g w.eps h a m x y)], (oA bs ats).map some, []) := by
  have hil := (List.getElem?_eq_some_iff.1 hi).1
  have hil' : (i : Int) < (bs.length : Int) := by omega
  have s := R_vsub (D+1) (okM_may kx) (okM_may ky) (okM_may ka.2.1) (okM_may ka.2.2.1)
  have kd1 := may_both (x - a.x) (y - a.y)
  have kd2 := may_both (y - a.y) (x - a.x)
  have pl := R_pull D (okM_may kg) (okM_may ka.1) (okM_may km) (okM_may kd1) (okM_may kd2) (okM_may ke) (okM_may kh)
  simp only [fv_dm] at s pl
  unfold rpE rpX rpY
  by_cases c1 : bothE (x - a.x) (y - a.y) = 0
  · simp only [c1, ne_eq, not_true_eq_false, if_false]
    rw [c1] at s
    unfold pullV at pl
    unfold wA oA
    rw [ev_fn T69]; (try simp only [Nat.add_assoc, Nat.reduceAdd] at s pl); obtain ⟨call, hcall⟩ : ∃ call, call = evFun T (D + 8) := ⟨_, rfl⟩; rw [← hcall] at s pl ⊢; clear hcall; simp (maxSteps := 2000000) [ir69, Wn.cells, Bd.row, hi, hil', s, pl]
  · have e1 : (bothE (x - a.x) (y - a.y) != 0) = true := by simpa using c1
    have f : ¬ (fitE (x - a.x) = 0 ∧ fitE (y - a.y) = 0) := fun q => c1 (bothE_zero.2 q)
    have z1 : both1 (x - a.x) (y - a.y) = 0 := by unfold both1; rw [if_neg f]
    have z2 : both1 (y - a.y) (x - a.x) = 0 := by unfold both1; rw [if_neg (fun q => f ⟨q.2, q.1⟩)]
    rw [z1, z2] at s
    simp only [c1, ne_eq, not_false_eq_true, if_true]
    unfold wA oA
    rw [ev_fn T69]; (try simp only [Nat.add_assoc, Nat.reduceAdd] at s pl); obtain ⟨call, hcall⟩ : ∃ call, call = evFun T (D + 8) := ⟨_, rfl⟩; rw [← hcall] at s pl ⊢; clear hcall; simp (maxSteps := 2000000) [ir69, Wn.cells, Bd.row, hi, hil', s, e1]
end Go.Ab

namespace Go.Ab
attribute [local simp] runFn args0 e_skip e_reg regC_some e_seq seqC_n seqC_e seqC_r e_cond condC_t condC_f e_block e_loop e_exit e_ret nextC_n nextC_e nextC_r nextK_n nextK_e nextK_r evReg evOps evOp wants fp St.ev St.get St.set St.sets St.put St.apply St.pre preK inB lk up del hits V.cells V.cellsG allPlain Cell.plain pure1 keysOf okUn noK Ev.apart meets mkV splice fillC binC unC mmC eqCs eqC resVs resV one export1 V.keys V.keys1 outKeys valsKeys cellsKeys Cell.keys Blk.keys elsKeys fpCall fpCallG noTup reach getAll outW newW names srcs capsOf onesOf slB rowsOf V.ren V.ren1 Cell.ren Loc.ren locsRen Blk.ren inR outR place nm St.sweep swept St.kill killR lmap delAll St.trim reachL expR ownGet b2i_le wrap_u64 wrap_i64 bits_u64 bits_i64 or_u64 and_u64 Int.fdiv_eq_ediv_of_nonneg word mmC hits
def mS (w : Wn) (n m : Nat) (ob : List (Option Blk)) (v3 : V) (k : Int) (l19 : List (Nat × Blk)) (cr : List Nat) : St :=
  { env := [(0, .agg [.int .i64 w.tk, .int .i64 (w.h / 18446744073709551616), .int .u64 (w.h % 18446744073709551616), .int .i64 (w.g / 18446744073709551616), .int .u64 (w.g % 18446744073709551616), .int .i64 (w.eps / 18446744073709551616), .int .u64 (w.eps % 18446744073709551616), .int .i64 (w.th / 18446744073709551616), .int .u64 (w.th % 18446744073709551616), .int .i64 (w.bo / 18446744073709551616), .int .u64 (w.bo % 18446744073709551616), .int .i64 w.gr, .int .i64 w.st, Cell.slc (Key.o 0) 20 0 n, Cell.nils, Cell.nils, Cell.slc (Key.o 1) 1 0 m, .int .i64 (w.xm / 18446744073709551616), .int .u64 (w.xm % 18446744073709551616), .int .i64 (w.xp / 18446744073709551616), .int .u64 (w.xp % 18446744073709551616), .int .i64 (w.xq / 18446744073709551616), .int .u64 (w.xq % 18446744073709551616), Cell.nils]), (1, .c (.ptr { k := Key.l 1, i := 0, o := 0 })), (2, .c Cell.nils), (3, v3), (4, .c (.int .i64 k))],
    loc := [(1, { T := 46, sz := 24, own := true, pl := false, els := [[.int .i64 w.tk, .int .i64 (w.h / 18446744073709551616), .int .u64 (w.h % 18446744073709551616), .int .i64 (w.g / 18446744073709551616), .int .u64 (w.g % 18446744073709551616), .int .i64 (w.eps / 18446744073709551616), .int .u64 (w.eps % 18446744073709551616), .int .i64 (w.th / 18446744073709551616), .int .u64 (w.th % 18446744073709551616), .int .i64 (w.bo / 18446744073709551616), .int .u64 (w.bo % 18446744073709551616), .int .i64 w.gr, .int .i64 w.st, Cell.slc (Key.o 0) 20 0 n, Cell.nils, Cell.nils, Cell.slc (Key.o 1) 1 0 m, .int .i64 (w.xm / 18446744073709551616), .int .u64 (w.xm % 18446744073709551616), .int .i64 (w.xp / 18446744073709551616), .int .u64 (w.xp % 18446744073709551616), .int .i64 (w.xq / 18446744073709551616), .int .u64 (w.xq % 18446744073709551616), Cell.nils]] })] ++ l19,
    out := ob, cr := cr }
def rS2 (w : Wn) (n m : Nat) (h : Int) (ob : List (Option Blk)) (k : Int) (R : List (List Cell)) (cr : List Nat) : St :=
  { env := [(0, .agg [.int .i64 w.tk, .int .i64 (w.h / 18446744073709551616), .int .u64 (w.h % 18446744073709551616), .int .i64 (w.g / 18446744073709551616), .int .u64 (w.g % 18446744073709551616), .int .i64 (w.eps / 18446744073709551616), .int .u64 (w.eps % 18446744073709551616), .int .i64 (w.th / 18446744073709551616), .int .u64 (w.th % 18446744073709551616), .int .i64 (w.bo / 18446744073709551616), .int .u64 (w.bo % 18446744073709551616), .int .i64 w.gr, .int .i64 w.st, Cell.slc (Key.o 0) 20 0 n, Cell.nils, Cell.nils, Cell.slc (Key.o 1) 1 0 m, .int .i64 (w.xm / 18446744073709551616), .int .u64 (w.xm % 18446744073709551616), .int .i64 (w.xp / 18446744073709551616), .int .u64 (w.xp % 18446744073709551616), .int .i64 (w.xq / 18446744073709551616), .int .u64 (w.xq % 18446744073709551616), Cell.nils]), (1, .agg [.int .i64 (h / 18446744073709551616), .int .u64 (h % 18446744073709551616)]), (2, .c (.ptr { k := Key.l 2, i := 0, o := 0 })), (3, .c (.ptr { k := Key.l 3, i := 0, o := 0 })), (4, .c (.ptr { k := Key.l 4, i := 0, o := 0 })), (11, .agg [.int .i64 w.tk, .int .i64 (w.h / 18446744073709551616), .int .u64 (w.h % 18446744073709551616), .int .i64 (w.g / 18446744073709551616), .int .u64 (w.g % 18446744073709551616), .int .i64 (w.eps / 18446744073709551616), .int .u64 (w.eps % 18446744073709551616), .int .i64 (w.th / 18446744073709551616), .int .u64 (w.th % 18446744073709551616), .int .i64 (w.bo / 18446744073709551616), .int .u64 (w.bo % 18446744073709551616), .int .i64 w.gr, .int .i64 w.st, Cell.slc (Key.o 0) 20 0 n, Cell.nils, Cell.nils, Cell.slc (Key.o 1) 1 0 m, .int .i64 (w.xm / 18446744073709551616), .int .u64 (w.xm % 18446744073709551616), .int .i64 (w.xp / 18446744073709551616), .int .u64 (w.xp % 18446744073709551616), .int .i64 (w.xq / 18446744073709551616), .int .u64 (w.xq % 18446744073709551616), Cell.nils]), (12, .c (.slc (Key.l 13000) 4 0 n)), (5, .c (.slc (Key.l 13000) 4 0 n)), (6, .c (.int .i64 k))],
    loc := [(2, { T := 46, sz := 24, own := true, pl := false, els := [[.int .i64 w.tk, .int .i64 (w.h / 18446744073709551616), .int .u64 (w.h % 18446744073709551616), .int .i64 (w.g / 18446744073709551616), .int .u64 (w.g % 18446744073709551616), .int .i64 (w.eps / 18446744073709551616), .int .u64 (w.eps % 18446744073709551616), .int .i64 (w.th / 18446744073709551616), .int .u64 (w.th % 18446744073709551616), .int .i64 (w.bo / 18446744073709551616), .int .u64 (w.bo % 18446744073709551616), .int .i64 w.gr, .int .i64 w.st, Cell.slc (Key.o 0) 20 0 n, Cell.nils, Cell.nils, Cell.slc (Key.o 1) 1 0 m, .int .i64 (w.xm / 18446744073709551616), .int .u64 (w.xm % 18446744073709551616), .int .i64 (w.xp / 18446744073709551616), .int .u64 (w.xp % 18446744073709551616), .int .i64 (w.xq / 18446744073709551616), .int .u64 (w.xq % 18446744073709551616), Cell.nils]] }), (3, { T := 25, sz := 2, own := true, pl := true, els := [[.int .i64 (h / 18446744073709551616), .int .u64 (h % 18446744073709551616)]] }), (4, { T := 53, sz := 2, own := true, pl := false, els := [[Cell.nils, .int .i64 0]] }), (13000, { T := 28, sz := 4, own := true, pl := true, els := R })],
    out := ob, cr := cr }

def m19 (g : List Cell) (R : List (List Cell)) : List (Nat × Blk) := [(19, ⟨28, 4, true, true, [g]⟩), (20, ⟨28, 4, true, true, R⟩)]
theorem mom_r0 (D : Nat) (w : Wn) (bs : List Bd) (ats : List (List Cell)) (m : Nat) (b : Bd) (hb : bs[0]? = some b) :
    ∀ K, nextK K ir68_t0 ir68_x0 (evCode (evFun T (D+10)) ir68_l0 (mS w bs.length m ((oA bs ats).map some) (.c .nils) 0 [] [1])) =
      K (mS w bs.length m ((oA bs ats).map some) (.c (.slc (.l 20) 4 0 1)) 1 (m19 (Mo.row (b.p, b.q)) [Mo.row (b.p, b.q)]) [20, 19, 1]) := by
  intro K
  have hl := (List.getElem?_eq_some_iff.1 hb).1
  have hl' : (0 : Int) < (bs.length : Int) := by omega
  have hh : bs[0] = b := by simpa [hl] using hb
  simp (maxSteps := 2000000) [mS, oA, m19, ir68_l0, ir68_t0, ir68_x0, hl, hl', hh, Bd.row, Mo.row, maxRow]
theorem mom_rk (D : Nat) (w : Wn) (bs : List Bd) (ats : List (List Cell)) (m : Nat) (b : Bd) (k : Nat) (g : List Cell) (R : List (List Cell)) (hb : bs[k]? = some b) (hR : R.length = k) (h0 : 0 < k) (hm : k ≤ 1000) :
    ∀ K, nextK K ir68_t0 ir68_x0 (evCode (evFun T (D+10)) ir68_l0 (mS w bs.length m ((oA bs ats).map some) (.c (.slc (.l 20) 4 0 k)) k (m19 g R) [20, 19, 1])) =
      K (mS w bs.length m ((oA bs ats).map some) (.c (.slc (.l 20) 4 0 (k + 1))) ((k + 1 : Nat) : Int) (m19 (Mo.row (b.p, b.q)) (R ++ [Mo.row (b.p, b.q)])) [20, 19, 1]) := by
  intro K
  have hl := (List.getElem?_eq_some_iff.1 hb).1
  have hl' : (k : Int) < (bs.length : Int) := by omega
  have e1 : ((k : Int) + 1 + 9223372036854775808) % 18446744073709551616 - 9223372036854775808 = (k : Int) + 1 := by omega
  have e2 : R.take k = R := List.take_of_length_le (by omega)
  have e3 : k ≤ R.length := by omega
  have e4 : k + 1 ≤ 1073741824 := by omega
  have e5 : k < 1073741824 := by omega
  simp (maxSteps := 2000000) [mS, oA, m19, ir68_l0, ir68_t0, ir68_x0, hl', hb, Bd.row, Mo.row, maxRow, e1, e2, e3, e4, e5]
def mX (n : Nat) (S : St) : St := ((((S.put (some 5) (.c (.int .i64 n))).put (some 6) (.c (.ptr { k := .l 1, i := 0, o := 13 }))).put (some 7) (.c (.slc (.o 0) 20 0 n))).put (some 8) (.c (.int .i64 n))).put (some 9) (.c (.bool false))
theorem mom_rx (D : Nat) (w : Wn) (n m : Nat) (ob : List (Option Blk)) (v6 : V) (l24 : List (Nat × Blk)) (cr : List Nat) :
    ∀ K, nextK K ir68_t0 ir68_x0 (evCode (evFun T (D+10)) ir68_l0 (mS w n m ob v6 n l24 cr)) = some (.exit 0, mX n (mS w n m ob v6 n l24 cr)) := by
  intro K
  simp [mS, mX, ir68_l0, ir68_t0, ir68_x0]
theorem mom_take (D : Nat) (w : Wn) (bs : List Bd) (ats : List (List Cell)) (m : Nat) (hn : bs ≠ []) (hm : bs.length ≤ 1000) : ∃ g, loopC (evFun T (D+10)) ir68_l0 ir68_t0 ir68_x0 18446744073709551616 (mS w bs.length m ((oA bs ats).map some) (.c .nils) 0 [] [1]) =
    some (.exit 0, mX bs.length (mS w bs.length m ((oA bs ats).map some) (.c (.slc (.l 20) 4 0 bs.length)) bs.length (m19 g ((moms bs).map Mo.row)) [20, 19, 1])) := by
  have hpos : 0 < bs.length := List.length_pos_iff.2 hn
  let gs : Nat → List Cell := fun k => match bs[k - 1]? with | some b => Mo.row (b.p, b.q) | none => []
  have key := loop_k (call := evFun T (D+10)) (b := ir68_l0) (tr := ir68_t0) (bx := ir68_x0)
    (fun k => if k = 0 then mS w bs.length m ((oA bs ats).map some) (.c .nils) 0 [] [1] else mS w bs.length m ((oA bs ats).map some) (.c (.slc (.l 20) 4 0 k)) k (m19 (gs k) ((moms (bs.take k)).map Mo.row)) [20, 19, 1]) bs.length
    (fun k hk K => by
      by_cases h0 : k = 0
      · subst h0
        rw [if_pos rfl, if_neg (by omega)]
        have hb : bs[0]? = some bs[0] := by simp [hpos]
        have e1 : gs (0 + 1) = Mo.row (bs[0].p, bs[0].q) := by simp only [gs, Nat.add_sub_cancel, hb]
        rw [e1, moms_take bs 0 hpos]
        exact mom_r0 D w bs ats m bs[0] hb K
      · rw [if_neg h0, if_neg (by omega)]
        have hb : bs[k]? = some bs[k] := by simp [hk]
        rw [mom_rk D w bs ats m _ k _ _ hb (by simp only [moms, List.length_map, List.length_take]; omega) (by omega) (by omega) K]
        have e1 : gs (k + 1) = Mo.row (bs[k].p, bs[k].q) := by simp only [gs, Nat.add_sub_cancel, hb]
        rw [e1, moms_take bs k hk])
    (fun K => by
      rw [if_neg (by omega)]
      exact mom_rx D w bs.length m _ _ _ _ K) 18446744073709551616 (by omega)
  rw [if_pos rfl] at key
  refine ⟨gs bs.length, ?_⟩
  rw [key, List.take_of_length_le (Nat.le_refl _)]
theorem E_momenta (D : Nat) (w : Wn) (bs : List Bd) (ats : List (List Cell)) (m : Nat) (hn : bs ≠ []) (hm : bs.length ≤ 1000) :
    evFun T (D+11) 68 [wA w bs.length m] (oA bs ats) =
      some (.c (.slc (.l 0) 4 0 bs.length), (oA bs ats).map some, [⟨28, 4, true, true, (moms bs).map Mo.row⟩]) := by
  obtain ⟨g, hl⟩ := mom_take D w bs ats m hn hm
  generalize moms bs = ps at *
  unfold wA
  simp only [mS, mX, m19, oA, List.map_cons, List.map_nil, List.append_nil, Wn.cells, St.put, up] at hl
  unfold oA
  simp at hl
  rw [ev_fn T68]; (try simp only [Nat.add_assoc, Nat.reduceAdd] at hl); obtain ⟨call, hcall⟩ : ∃ call, call = evFun T (D + 10) := ⟨_, rfl⟩; rw [← hcall] at hl ⊢; clear hcall; simp (maxSteps := 2000000) [ir68, Wn.cells, hl]
end Go.Ab

/- Words for this claim: an evaluator of the program's functions, and what they come to. -/
import Derived.Test.YthknbnhchgbikaaQFu
set_option linter.all false
namespace Go.Ab
attribute [local simp] runFn args0 e_skip e_reg regC_some e_seq seqC_n seqC_e seqC_r e_cond condC_t condC_f e_block e_loop e_exit e_ret nextC_n nextC_e nextC_r nextK_n nextK_e nextK_r evReg evOps evOp wants fp St.ev St.get St.set St.sets St.put St.apply St.pre preK inB lk up del hits V.cells V.cellsG allPlain Cell.plain pure1 keysOf okUn noK Ev.apart meets mkV splice fillC binC unC mmC eqCs eqC resVs resV one export1 V.keys V.keys1 outKeys valsKeys cellsKeys Cell.keys Blk.keys elsKeys fpCall fpCallG noTup reach getAll outW newW names srcs capsOf onesOf slB rowsOf V.ren V.ren1 Cell.ren Loc.ren locsRen Blk.ren inR outR place nm St.sweep swept St.kill killR lmap delAll St.trim reachL expR ownGet b2i_le wrap_u64 wrap_i64 bits_u64 bits_i64 or_u64 and_u64 Int.fdiv_eq_ediv_of_nonneg word mmC hits
theorem aB_row' (s : Int) : V.agg (aB s).row = .agg [.int .i64 2, .int .u64 0, .int .i64 0, .int .u64 0, .int .i64 0, .int .u64 0, .int .i64 0, .int .u64 0, .int .i64 (s), .int .u64 0, .int .i64 0, .int .u64 0, .int .i64 0, .int .u64 0, .int .i64 0, .int .u64 0, .int .i64 0, .int .u64 0, .int .i64 0, .int .i64 0] := by rw [aB_row]
theorem bB_row' : V.agg bB.row = .agg [.int .i64 2, .int .u64 0, .int .i64 0, .int .u64 0, .int .i64 4, .int .u64 0, .int .i64 0, .int .u64 0, .int .i64 0, .int .u64 0, .int .i64 0, .int .u64 0, .int .i64 0, .int .u64 0, .int .i64 0, .int .u64 0, .int .i64 0, .int .u64 0, .int .i64 0, .int .i64 0] := by rw [bB_row]
theorem E_jerk1 (D : Nat) {s lim : Int} (hs : 1 ≤ s ∧ s ≤ 60) (hl : 0 ≤ lim ∧ lim ≤ 65535) : evFun T (D+10) 49 [.agg [.int .i64 0, .int .i64 1, .int .i64 3, .int .u64 0, .int .i64 lim, .int .u64 0], .agg [.int .i64 2, .int .u64 0, .int .i64 0, .int .u64 0, .int .i64 0, .int .u64 0, .int .i64 0, .int .u64 0, .int .i64 (-2 * s), .int .u64 0, .int .i64 0, .int .u64 0, .int .i64 0, .int .u64 0, .int .i64 0, .int .u64 0, .int .i64 0, .int .u64 0, .int .i64 0, .int .i64 0], .agg [.int .i64 2, .int .u64 0, .int .i64 0, .int .u64 0, .int .i64 4, .int .u64 0, .int .i64 0, .int .u64 0, .int .i64 0, .int .u64 0, .int .i64 0, .int .u64 0, .int .i64 0, .int .u64 0, .int .i64 0, .int .u64 0, .int .i64 0, .int .u64 0, .int .i64 0, .int .i64 0]] [] = (if lim < s then some (.tup [.agg [.int .i64 (0), .int .u64 0, .int .i64 0, .int .u64 0], .c (.bool false), .c (.bool true), .c (.int .i64 0)], [], []) else some (.tup [.agg [.int .i64 (s), .int .u64 0, .int .i64 0, .int .u64 0], .c (.bool true), .c (.bool false), .c (.int .i64 0)], [], [])) := by
  have j := E_jerk D 0 1 (l := 3 * 18446744073709551616) (lim := lim * 18446744073709551616) (aB (-2 * s)) bB (aB_ok _ (by omega)) bB_ok (by unfold mayI; omega) (by unfold mayI; omega)
  rw [jerk1 hs, aB_row' (-2 * s), bB_row'] at j
  rw [show lim * 18446744073709551616 / 18446744073709551616 = lim by omega, show lim * 18446744073709551616 % 18446744073709551616 = 0 by omega] at j
  by_cases c : lim < s
  · rw [if_pos c]
    rw [if_pos (by omega : lim * 18446744073709551616 < s * 18446744073709551616)] at j
    simp at j
    exact j
  · rw [if_neg c]
    rw [if_neg (by omega : ¬ lim * 18446744073709551616 < s * 18446744073709551616)] at j
    simp only at j
    have e1 : s * 18446744073709551616 / 18446744073709551616 = s := by omega
    have e2 : s * 18446744073709551616 % 18446744073709551616 = 0 := by omega
    rw [e1, e2] at j
    simp at j
    exact j
theorem E_jerk2 (D : Nat) {s lim : Int} (hs : 1 ≤ s ∧ s ≤ 60) (hl : 0 ≤ lim ∧ lim ≤ 65535) : evFun T (D+10) 49 [.agg [.int .i64 0, .int .i64 1, .int .i64 3, .int .u64 0, .int .i64 lim, .int .u64 0], .agg [.int .i64 2, .int .u64 0, .int .i64 0, .int .u64 0, .int .i64 4, .int .u64 0, .int .i64 0, .int .u64 0, .int .i64 0, .int .u64 0, .int .i64 0, .int .u64 0, .int .i64 0, .int .u64 0, .int .i64 0, .int .u64 0, .int .i64 0, .int .u64 0, .int .i64 0, .int .i64 0], .agg [.int .i64 2, .int .u64 0, .int .i64 0, .int .u64 0, .int .i64 0, .int .u64 0, .int .i64 0, .int .u64 0, .int .i64 (-2 * s), .int .u64 0, .int .i64 0, .int .u64 0, .int .i64 0, .int .u64 0, .int .i64 0, .int .u64 0, .int .i64 0, .int .u64 0, .int .i64 0, .int .i64 0]] [] = (if lim < s then some (.tup [.agg [.int .i64 (0), .int .u64 0, .int .i64 0, .int .u64 0], .c (.bool false), .c (.bool true), .c (.int .i64 0)], [], []) else some (.tup [.agg [.int .i64 (-s), .int .u64 0, .int .i64 0, .int .u64 0], .c (.bool true), .c (.bool false), .c (.int .i64 0)], [], [])) := by
  have j := E_jerk D 0 1 (l := 3 * 18446744073709551616) (lim := lim * 18446744073709551616) bB (aB (-2 * s)) bB_ok (aB_ok _ (by omega)) (by unfold mayI; omega) (by unfold mayI; omega)
  rw [jerk2 hs, aB_row' (-2 * s), bB_row'] at j
  rw [show lim * 18446744073709551616 / 18446744073709551616 = lim by omega, show lim * 18446744073709551616 % 18446744073709551616 = 0 by omega] at j
  by_cases c : lim < s
  · rw [if_pos c]
    rw [if_pos (by omega : lim * 18446744073709551616 < s * 18446744073709551616)] at j
    simp at j
    exact j
  · rw [if_neg c]
    rw [if_neg (by omega : ¬ lim * 18446744073709551616 < s * 18446744073709551616)] at j
    simp only at j
    have e1 : -(s * 18446744073709551616) / 18446744073709551616 = -s := by omega
    have e2 : -(s * 18446744073709551616) % 18446744073709551616 = 0 := by omega
    rw [e1, e2] at j
    simp at j
    exact j
theorem E_jerk3 (D : Nat) {s lim : Int} (hs : 1 ≤ s ∧ s ≤ 60) (hl : 0 ≤ lim ∧ lim ≤ 65535) : evFun T (D+10) 49 [.agg [.int .i64 0, .int .i64 1, .int .i64 5, .int .u64 0, .int .i64 lim, .int .u64 0], .agg [.int .i64 2, .int .u64 0, .int .i64 0, .int .u64 0, .int .i64 0, .int .u64 0, .int .i64 0, .int .u64 0, .int .i64 (-2 * s), .int .u64 0, .int .i64 0, .int .u64 0, .int .i64 0, .int .u64 0, .int .i64 0, .int .u64 0, .int .i64 0, .int .u64 0, .int .i64 0, .int .i64 0], .agg [.int .i64 2, .int .u64 0, .int .i64 0, .int .u64 0, .int .i64 4, .int .u64 0, .int .i64 0, .int .u64 0, .int .i64 0, .int .u64 0, .int .i64 0, .int .u64 0, .int .i64 0, .int .u64 0, .int .i64 0, .int .u64 0, .int .i64 0, .int .u64 0, .int .i64 0, .int .i64 0]] [] = some (.tup [.agg [.int .i64 (0), .int .u64 0, .int .i64 0, .int .u64 0], .c (.bool false), .c (.bool false), .c (.int .i64 0)], [], []) := by
  have j := E_jerk D 0 1 (l := 5 * 18446744073709551616) (lim := lim * 18446744073709551616) (aB (-2 * s)) bB (aB_ok _ (by omega)) bB_ok (by unfold mayI; omega) (by unfold mayI; omega)
  rw [jerk3 hs, aB_row' (-2 * s), bB_row'] at j
  rw [show lim * 18446744073709551616 / 18446744073709551616 = lim by omega, show lim * 18446744073709551616 % 18446744073709551616 = 0 by omega] at j
  simp at j
  exact j
theorem E_jerk4 (D : Nat) {s lim : Int} (hs : 1 ≤ s ∧ s ≤ 60) (hl : 0 ≤ lim ∧ lim ≤ 65535) : evFun T (D+10) 49 [.agg [.int .i64 0, .int .i64 1, .int .i64 3, .int .u64 0, .int .i64 lim, .int .u64 0], .agg [.int .i64 2, .int .u64 0, .int .i64 0, .int .u64 0, .int .i64 0, .int .u64 0, .int .i64 0, .int .u64 0, .int .i64 (2 * s), .int .u64 0, .int .i64 0, .int .u64 0, .int .i64 0, .int .u64 0, .int .i64 0, .int .u64 0, .int .i64 0, .int .u64 0, .int .i64 0, .int .i64 0], .agg [.int .i64 2, .int .u64 0, .int .i64 0, .int .u64 0, .int .i64 4, .int .u64 0, .int .i64 0, .int .u64 0, .int .i64 0, .int .u64 0, .int .i64 0, .int .u64 0, .int .i64 0, .int .u64 0, .int .i64 0, .int .u64 0, .int .i64 0, .int .u64 0, .int .i64 0, .int .i64 0]] [] = some (.tup [.agg [.int .i64 (0), .int .u64 0, .int .i64 0, .int .u64 0], .c (.bool false), .c (.bool false), .c (.int .i64 0)], [], []) := by
  have j := E_jerk D 0 1 (l := 3 * 18446744073709551616) (lim := lim * 18446744073709551616) (aB (2 * s)) bB (aB_ok _ (by omega)) bB_ok (by unfold mayI; omega) (by unfold mayI; omega)
  rw [jerk4 hs, aB_row' (2 * s), bB_row'] at j
  rw [show lim * 18446744073709551616 / 18446744073709551616 = lim by omega, show lim * 18446744073709551616 % 18446744073709551616 = 0 by omega] at j
  simp at j
  exact j
theorem E_pair (D : Nat) {s lim : Int} (hs : 1 ≤ s ∧ s ≤ 60) (hl : 0 ≤ lim ∧ lim ≤ 65535) : evFun T (D+2) 51 [.c (.int .i64 s), .c (.int .i64 lim)] [] = some (.tup [.agg [.int .i64 0, .int .i64 1, .int .i64 3, .int .u64 0, .int .i64 lim, .int .u64 0], .agg [.int .i64 2, .int .u64 0, .int .i64 0, .int .u64 0, .int .i64 0, .int .u64 0, .int .i64 0, .int .u64 0, .int .i64 (-2 * s), .int .u64 0, .int .i64 0, .int .u64 0, .int .i64 0, .int .u64 0, .int .i64 0, .int .u64 0, .int .i64 0, .int .u64 0, .int .i64 0, .int .i64 0], .agg [.int .i64 2, .int .u64 0, .int .i64 0, .int .u64 0, .int .i64 4, .int .u64 0, .int .i64 0, .int .u64 0, .int .i64 0, .int .u64 0, .int .i64 0, .int .u64 0, .int .i64 0, .int .u64 0, .int .i64 0, .int .u64 0, .int .i64 0, .int .u64 0, .int .i64 0, .int .i64 0]], [], []) := by
  have i1 := E_rint D (n := 2) (by omega)
  have i2 := E_rint D (n := 3) (by omega)
  have i3 := E_rint D (n := 4) (by omega)
  have i4 := E_rint D (n := lim) (by omega)
  have i5 := E_rint D (n := -2 * s) (by omega)
  have e1 : (-2 * s + 9223372036854775808) % 18446744073709551616 - 9223372036854775808 = -2 * s := by omega
  have e2 : (-(2 * s) + 9223372036854775808) % 18446744073709551616 - 9223372036854775808 = -(2 * s) := by omega
  have e3 : -2 * s = -(2 * s) := by omega
  rw [e3] at i5 ⊢
  generalize hz : -(2 * s) = z at *
  clear e1 e2
  have e2 : (z + 9223372036854775808) % 18446744073709551616 - 9223372036854775808 = z := by omega
  rw [ev_fn T51]; (try simp only [Nat.add_assoc, Nat.reduceAdd] at i1 i2 i3 i4 i5); obtain ⟨call, hcall⟩ : ∃ call, call = evFun T (D + 1) := ⟨_, rfl⟩; rw [← hcall] at i1 i2 i3 i4 i5 ⊢; clear hcall; simp (maxSteps := 2000000) [ir51, i1, i2, i3, i4, i5, e2, e3, hz]
theorem E_negvec (D : Nat) {s : Int} (hs : 1 ≤ s ∧ s ≤ 60) : evFun T (D+4) 52 [.agg [.int .i64 (-2 * s), .int .u64 0, .int .i64 0, .int .u64 0]] [] = some (.agg [.int .i64 (2 * s), .int .u64 0, .int .i64 0, .int .u64 0], [], []) := by
  have a := R_neg D (h := -2 * s) (l := 0) (by unfold okM fv; omega)
  have b := R_neg D (h := 0) (l := 0) (by unfold okM fv; omega)
  rw [show -fv (-2 * s) 0 / 18446744073709551616 = 2 * s by unfold fv; omega, show -fv (-2 * s) 0 % 18446744073709551616 = 0 by unfold fv; omega] at a
  rw [show -fv 0 0 / 18446744073709551616 = 0 by unfold fv; omega, show -fv 0 0 % 18446744073709551616 = 0 by unfold fv; omega] at b
  generalize -2 * s = z at *
  generalize 2 * s = z' at *
  rw [ev_fn T52]; (try simp only [Nat.add_assoc, Nat.reduceAdd] at a b); obtain ⟨call, hcall⟩ : ∃ call, call = evFun T (D + 3) := ⟨_, rfl⟩; rw [← hcall] at a b ⊢; clear hcall; simp (maxSteps := 2000000) [ir52, a, b]
theorem ev_awake18 (D : Nat) : evFun T (D+11) 48 [] [] = some (.c (.bool true), [], []) := by
  have n1 := fun n => E_num (D+9) n
  have i1 := E_rint (D+9) (n := 1) (by omega)
  have p := E_pair (D+8) (s := 6) (lim := 100) (by omega) (by omega)
  have j1 := E_jerk1 D (s := 6) (lim := 100) (by omega) (by omega)
  have j2 := E_jerk1 D (s := 6) (lim := 1) (by omega) (by omega)
  rw [if_neg (by omega)] at j1
  rw [if_pos (by omega)] at j2
  simp at p j1 j2
  rw [ev_fn T48]; (try simp only [Nat.add_assoc, Nat.reduceAdd] at n1 i1 p j1 j2); obtain ⟨call, hcall⟩ : ∃ call, call = evFun T (D + 10) := ⟨_, rfl⟩; rw [← hcall] at n1 i1 p j1 j2 ⊢; clear hcall; simp (maxSteps := 2000000) [ir48, n1, i1, p, j1, j2]
set_option maxRecDepth 20000 in
set_option maxHeartbeats 4000000 in
theorem line_ev (D : Nat) (v lim : Int) (hv : 0 ≤ v ∧ v ≤ 255) (hl : 0 ≤ lim ∧ lim ≤ 65535) : evFun T (D+12) 14 [.c (.int .u8 v), .c (.int .u16 lim)] [] = some (.c (.bool true), [], []) := by
  have n1 := fun n => E_num (D+10) n
  have aw := ev_awake18 D
  have t1 : v.tmod 60 = v % 60 := Int.tmod_eq_emod_of_nonneg hv.1
  have c1 := conv_u16 (a := v) (by omega)
  have c2 := conv_u16 (a := lim) (by omega)
  have c3 : (1 + v % 60 + 9223372036854775808) % 18446744073709551616 - 9223372036854775808 = 1 + v % 60 := by omega
  have hs : 1 ≤ 1 + v % 60 ∧ 1 + v % 60 ≤ 60 := by omega
  obtain ⟨s, hsv⟩ : ∃ s, 1 + v % 60 = s := ⟨_, rfl⟩
  rw [hsv] at c3 hs
  have i0 := E_rint (D+10) (n := s) (by omega)
  have i5 := E_rint (D+10) (n := 5) (by omega)
  have i3 := E_rint (D+10) (n := 3) (by omega)
  have p := E_pair (D+9) hs hl
  have j1 := E_jerk1 (D+1) hs hl
  have j2 := E_jerk2 (D+1) hs hl
  have j3 := E_jerk3 (D+1) hs hl
  have j4 := E_jerk4 (D+1) hs hl
  have nv := E_negvec (D+7) hs
  have sb := R_sub (D+5) (h1 := s) (l1 := 0) (h2 := s) (l2 := 0) (by unfold okM fv; omega) (by unfold okM fv; omega)
  rw [Int.sub_self, fit_zero.1, fit_zero.2] at sb
  have mg := R_mag (D+7) (h := 0) (l := 0) okM_z
  rw [show fv 0 0 = 0 from rfl, show absI 0 = 0 from rfl] at mg
  have ls := R_less (D+10) (h1 := 0) (l1 := 1048576) (h2 := 0) (l2 := 0) (by unfold inW; omega) (by unfold inW; omega) (by unfold inW; omega) (by unfold inW; omega)
  rw [show decide (fv 0 1048576 < fv 0 0) = false from rfl] at ls
  simp at sb mg
  generalize hz : -2 * s = z at *
  generalize hz' : 2 * s = z' at *
  by_cases c : lim < s
  · rw [if_pos c] at j1 j2
    have c5 : ¬ lim = s := by omega
    have c6 : (lim == s) = false := by simpa using c5
    clear hz hz' hs hl hv
    rw [ev_fn T14]; (try simp only [Nat.add_assoc, Nat.reduceAdd] at n1 aw i0 i5 i3 p j1 j2 j3 j4 nv sb mg ls); obtain ⟨call, hcall⟩ : ∃ call, call = evFun T (D + 11) := ⟨_, rfl⟩; rw [← hcall] at n1 aw i0 i5 i3 p j1 j2 j3 j4 nv sb mg ls ⊢; clear hcall; simp (maxSteps := 2000000) [ir14, n1, aw, t1, hsv, c1, c2, c3, c, c5, c6, i0, i5, i3, p, j1, j2, j3, j4, nv, sb, mg, ls]
  · rw [if_neg c] at j1 j2
    by_cases c5 : lim = s
    · subst c5
      clear hz hz' hs hl hv
      rw [ev_fn T14]; (try simp only [Nat.add_assoc, Nat.reduceAdd] at n1 aw i0 i5 i3 p j1 j2 j3 j4 nv sb mg ls); obtain ⟨call, hcall⟩ : ∃ call, call = evFun T (D + 11) := ⟨_, rfl⟩; rw [← hcall] at n1 aw i0 i5 i3 p j1 j2 j3 j4 nv sb mg ls ⊢; clear hcall; simp (maxSteps := 2000000) [ir14, n1, aw, t1, hsv, c1, c2, c3, i0, i5, i3, p, j1, j2, j3, j4, nv, sb, mg, ls]
    · have c6 : (lim == s) = false := by simpa using c5
      clear hz hz' hs hl hv
      rw [ev_fn T14]; (try simp only [Nat.add_assoc, Nat.reduceAdd] at n1 aw i0 i5 i3 p j1 j2 j3 j4 nv sb mg ls); obtain ⟨call, hcall⟩ : ∃ call, call = evFun T (D + 11) := ⟨_, rfl⟩; rw [← hcall] at n1 aw i0 i5 i3 p j1 j2 j3 j4 nv sb mg ls ⊢; clear hcall; simp (maxSteps := 2000000) [ir14, n1, aw, t1, hsv, c1, c2, c3, c, c5, c6, i0, i5, i3, p, j1, j2, j3, j4, nv, sb, mg, ls]
end Go.Ab

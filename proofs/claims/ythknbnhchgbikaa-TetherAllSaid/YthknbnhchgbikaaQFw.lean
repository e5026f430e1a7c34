/- Words for this claim: an evaluator of the program's functions, and what they come to. -/
import Derived.Test.YthknbnhchgbikaaQFt
import Derived.Test.YthknbnhchgbikaaQFn
set_option linter.all false
namespace Go.Ab
attribute [local simp] runFn args0 e_skip e_reg regC_some e_seq seqC_n seqC_e seqC_r e_cond condC_t condC_f e_block e_loop e_exit e_ret nextC_n nextC_e nextC_r nextK_n nextK_e nextK_r evReg evOps evOp wants fp St.ev St.get St.set St.sets St.put St.apply St.pre preK inB lk up del hits V.cells V.cellsG allPlain Cell.plain pure1 keysOf okUn noK Ev.apart meets mkV splice fillC binC unC mmC eqCs eqC resVs resV one export1 V.keys V.keys1 outKeys valsKeys cellsKeys Cell.keys Blk.keys elsKeys fpCall fpCallG noTup reach getAll outW newW names srcs capsOf onesOf slB rowsOf V.ren V.ren1 Cell.ren Loc.ren locsRen Blk.ren inR outR place nm St.sweep swept St.kill killR lmap delAll St.trim reachL expR ownGet b2i_le wrap_u64 wrap_i64 bits_u64 bits_i64 or_u64 and_u64 Int.fdiv_eq_ediv_of_nonneg word mmC hits
theorem R_speed (D : Nat) (b : Bd) (k : b.ok) : evFun T (D+6) 143 [.agg b.row] [] = some (.agg [.int .i64 ((over1 b.p b.q b.m) / 18446744073709551616), .int .u64 ((over1 b.p b.q b.m) % 18446744073709551616), .int .i64 ((over1 b.q b.p b.m) / 18446744073709551616), .int .u64 ((over1 b.q b.p b.m) % 18446744073709551616), .int .i64 (overE b.p b.q b.m)], [], []) := by
  have a := R_div D (okM_may k.2.2.2.1) (okM_may k.1)
  have c := R_div D (okM_may k.2.2.2.2) (okM_may k.1)
  simp only [fv_dm] at a c
  unfold overE over1
  by_cases h1 : divE b.p b.m = 0
  · rw [h1, (divE_fit h1).1] at a
    by_cases h2 : divE b.q b.m = 0
    · rw [h2, (divE_fit h2).1] at c
      rw [if_pos h1, if_pos ⟨h1, h2⟩, if_pos ⟨h2, h1⟩, h2]
      rw [ev_fn T143]; (try simp only [Nat.add_assoc, Nat.reduceAdd] at a c); obtain ⟨call, hcall⟩ : ∃ call, call = evFun T (D + 5) := ⟨_, rfl⟩; rw [← hcall] at a c ⊢; clear hcall; simp (maxSteps := 2000000) [ir143, Bd.row, a, c]
    · have e4 : (divE b.q b.m != 0) = true := by simpa using h2
      rw [if_pos h1, if_neg (fun z => h2 z.2), if_neg (fun z => h2 z.1)]
      rw [ev_fn T143]; (try simp only [Nat.add_assoc, Nat.reduceAdd] at a c); obtain ⟨call, hcall⟩ : ∃ call, call = evFun T (D + 5) := ⟨_, rfl⟩; rw [← hcall] at a c ⊢; clear hcall; simp (maxSteps := 2000000) [ir143, Bd.row, a, c, e4]
  · have e4 : (divE b.p b.m != 0) = true := by simpa using h1
    rw [if_neg h1, if_neg (fun z => h1 z.1), if_neg (fun z => h1 z.2)]
    rw [ev_fn T143]; (try simp only [Nat.add_assoc, Nat.reduceAdd] at a); obtain ⟨call, hcall⟩ : ∃ call, call = evFun T (D + 5) := ⟨_, rfl⟩; rw [← hcall] at a ⊢; clear hcall; simp (maxSteps := 2000000) [ir143, Bd.row, a, e4]
theorem R_length (D : Nat) {x y : Int} (kx : mayI x) (ky : mayI y) : evFun T (D+8) 107 [.agg [.int .i64 ((x) / 18446744073709551616), .int .u64 ((x) % 18446744073709551616), .int .i64 ((y) / 18446744073709551616), .int .u64 ((y) % 18446744073709551616)]] [] = some (.agg [.int .i64 ((lenN x y) / 18446744073709551616), .int .u64 ((lenN x y) % 18446744073709551616), .int .i64 (lenE x y)], [], []) := by
  have a := R_len2 D (okM_may kx) (okM_may ky)
  have b := R_sqrt (D+2) (okM_may (len2N_may x y))
  simp only [fv_dm] at a b
  unfold lenE lenN
  by_cases h1 : len2E x y = 0
  · rw [h1] at a
    rw [if_pos h1, if_pos h1]
    rw [ev_fn T107]; (try simp only [Nat.add_assoc, Nat.reduceAdd] at a b); obtain ⟨call, hcall⟩ : ∃ call, call = evFun T (D + 7) := ⟨_, rfl⟩; rw [← hcall] at a b ⊢; clear hcall; simp (maxSteps := 2000000) [ir107, a, b]
  · have e4 : (len2E x y != 0) = true := by simpa using h1
    have z : len2N x y = 0 := by
      unfold len2N doN
      unfold len2E doE at h1
      split
      · rename_i c
        rw [if_pos c] at h1
        exact (fitN_err h1).1
      · rfl
    rw [z] at a
    rw [if_neg h1, if_neg h1]
    rw [ev_fn T107]; (try simp only [Nat.add_assoc, Nat.reduceAdd] at a); obtain ⟨call, hcall⟩ : ∃ call, call = evFun T (D + 7) := ⟨_, rfl⟩; rw [← hcall] at a ⊢; clear hcall; simp (maxSteps := 2000000) [ir107, a, e4]
theorem R_mass (D : Nat) (a b : Bd) (ka : mayI a.m) (kb : mayI b.m) : evFun T (D+6) 106 [.agg a.row, .agg b.row] [] = some (.agg [.int .i64 ((massN a.m b.m) / 18446744073709551616), .int .u64 ((massN a.m b.m) % 18446744073709551616), .int .i64 (massE a.m b.m)], [], []) := by
  have s1 := R_mul D (okM_may ka) (okM_may kb)
  have s2 := R_add D (okM_may ka) (okM_may kb)
  have s3 := R_div D (okM_may (fitN_may (mulI a.m b.m))) (okM_may (fitN_may (a.m + b.m)))
  simp only [fv_dm] at s1 s2 s3
  unfold massN massE
  by_cases h1 : fitE (mulI a.m b.m) = 0
  · simp only [h1, ne_eq, not_true_eq_false, if_false]
    rw [h1, fitN_of h1] at s1
    by_cases h2 : fitE (a.m + b.m) = 0
    · simp only [h2, not_true_eq_false, if_false]
      rw [h2, fitN_of h2] at s2
      rw [fitN_of h1, fitN_of h2] at s3
      by_cases h3 : divE (mulI a.m b.m) (a.m + b.m) = 0
      · rw [if_pos h3]
        rw [h3, (divE_fit h3).1] at s3
        rw [h3]
        rw [ev_fn T106]; (try simp only [Nat.add_assoc, Nat.reduceAdd] at s1 s2 s3); obtain ⟨call, hcall⟩ : ∃ call, call = evFun T (D + 5) := ⟨_, rfl⟩; rw [← hcall] at s1 s2 s3 ⊢; clear hcall; simp (maxSteps := 2000000) [ir106, Bd.row, s1, s2, s3]
      · rw [if_neg h3]
        have z : fitN (divI (mulI a.m b.m) (a.m + b.m)) = 0 := by
          unfold divE at h3
          split at h3
          · rename_i c; rw [c, divI_zero]; exact fit_zero.1
          · exact (fitN_err h3).1
        rw [z] at s3
        rw [ev_fn T106]; (try simp only [Nat.add_assoc, Nat.reduceAdd] at s1 s2 s3); obtain ⟨call, hcall⟩ : ∃ call, call = evFun T (D + 5) := ⟨_, rfl⟩; rw [← hcall] at s1 s2 s3 ⊢; clear hcall; simp (maxSteps := 2000000) [ir106, Bd.row, s1, s2, s3]
    · have e4 : (fitE (a.m + b.m) != 0) = true := by simpa using h2
      rw [(fitN_err h2).1] at s2
      simp only [h2, not_false_eq_true, if_true, if_false]
      rw [ev_fn T106]; (try simp only [Nat.add_assoc, Nat.reduceAdd] at s1 s2); obtain ⟨call, hcall⟩ : ∃ call, call = evFun T (D + 5) := ⟨_, rfl⟩; rw [← hcall] at s1 s2 ⊢; clear hcall; simp (maxSteps := 2000000) [ir106, Bd.row, s1, s2, e4]
  · have e4 : (fitE (mulI a.m b.m) != 0) = true := by simpa using h1
    rw [(fitN_err h1).1] at s1
    simp only [h1, ne_eq, not_false_eq_true, if_true, if_false]
    rw [ev_fn T106]; (try simp only [Nat.add_assoc, Nat.reduceAdd] at s1); obtain ⟨call, hcall⟩ : ∃ call, call = evFun T (D + 5) := ⟨_, rfl⟩; rw [← hcall] at s1 ⊢; clear hcall; simp (maxSteps := 2000000) [ir106, Bd.row, s1, e4]
theorem R_closing (D : Nat) (a b : Bd) (ka : a.ok) (kb : b.ok) {x y n : Int} (kx : mayI x) (ky : mayI y) : evFun T (D+8) 105 [.agg a.row, .agg b.row, .agg [.int .i64 ((x) / 18446744073709551616), .int .u64 ((x) % 18446744073709551616), .int .i64 ((y) / 18446744073709551616), .int .u64 ((y) % 18446744073709551616), .int .i64 ((n) / 18446744073709551616), .int .u64 ((n) % 18446744073709551616), .int .i64 0, .int .u64 0, .int .i64 0]] [] =
    (if wE a b ≠ 0 then some (.agg [.int .i64 0, .int .u64 0, .int .i64 0, .int .u64 0, .int .i64 0, .int .u64 0, .int .i64 0, .int .u64 0, .int .i64 (wE a b)], [], []) else if dotE x y (wX a b) (wY a b) ≠ 0 then some (.agg [.int .i64 0, .int .u64 0, .int .i64 0, .int .u64 0, .int .i64 0, .int .u64 0, .int .i64 0, .int .u64 0, .int .i64 (dotE x y (wX a b) (wY a b))], [], []) else some (.agg [.int .i64 ((x) / 18446744073709551616), .int .u64 ((x) % 18446744073709551616), .int .i64 ((y) / 18446744073709551616), .int .u64 ((y) % 18446744073709551616), .int .i64 ((n) / 18446744073709551616), .int .u64 ((n) % 18446744073709551616), .int .i64 ((dotN x y (wX a b) (wY a b)) / 18446744073709551616), .int .u64 ((dotN x y (wX a b) (wY a b)) % 18446744073709551616), .int .i64 (0)], [], [])) := by
  have s1 := R_speed (D+1) a ka
  have s2 := R_speed (D+1) b kb
  have s3 := R_vsub D (okM_may (over1_may b.p b.q b.m)) (okM_may (over1_may b.q b.p b.m)) (okM_may (over1_may a.p a.q a.m)) (okM_may (over1_may a.q a.p a.m))
  have s4 := R_dot (D+1) (okM_may kx) (okM_may ky) (okM_may (may_both (over1 b.p b.q b.m - over1 a.p a.q a.m) (over1 b.q b.p b.m - over1 a.q a.p a.m))) (okM_may (may_both (over1 b.q b.p b.m - over1 a.q a.p a.m) (over1 b.p b.q b.m - over1 a.p a.q a.m)))
  simp only [fv_dm] at s3 s4
  simp only [Bd.row] at s1 s2
  unfold wE wX wY
  by_cases h1 : overE a.p a.q a.m = 0
  · simp only [h1, ne_eq, not_true_eq_false, if_false]
    rw [h1] at s1
    by_cases h2 : overE b.p b.q b.m = 0
    · simp only [h2, not_true_eq_false, if_false]
      rw [h2] at s2
      by_cases h3 : bothE (over1 b.p b.q b.m - over1 a.p a.q a.m) (over1 b.q b.p b.m - over1 a.q a.p a.m) = 0
      · rw [if_neg (by simpa using h3)]
        rw [h3] at s3
        by_cases h4 : dotE x y (both1 (over1 b.p b.q b.m - over1 a.p a.q a.m) (over1 b.q b.p b.m - over1 a.q a.p a.m)) (both1 (over1 b.q b.p b.m - over1 a.q a.p a.m) (over1 b.p b.q b.m - over1 a.p a.q a.m)) = 0
        · rw [if_neg (by simpa using h4)]
          rw [h4] at s4
          rw [ev_fn T105]; (try simp only [Nat.add_assoc, Nat.reduceAdd] at s1 s2 s3 s4); obtain ⟨call, hcall⟩ : ∃ call, call = evFun T (D + 7) := ⟨_, rfl⟩; rw [← hcall] at s1 s2 s3 s4 ⊢; clear hcall; simp (maxSteps := 2000000) [ir105, Bd.row, s1, s2, s3, s4]
        · rw [if_pos h4]
          have e4 : (dotE x y (both1 (over1 b.p b.q b.m - over1 a.p a.q a.m) (over1 b.q b.p b.m - over1 a.q a.p a.m)) (both1 (over1 b.q b.p b.m - over1 a.q a.p a.m) (over1 b.p b.q b.m - over1 a.p a.q a.m)) != 0) = true := by simpa using h4
          rw [ev_fn T105]; (try simp only [Nat.add_assoc, Nat.reduceAdd] at s1 s2 s3 s4); obtain ⟨call, hcall⟩ : ∃ call, call = evFun T (D + 7) := ⟨_, rfl⟩; rw [← hcall] at s1 s2 s3 s4 ⊢; clear hcall; simp (maxSteps := 2000000) [ir105, Bd.row, s1, s2, s3, s4, e4]
      · have e4 : (bothE (over1 b.p b.q b.m - over1 a.p a.q a.m) (over1 b.q b.p b.m - over1 a.q a.p a.m) != 0) = true := by simpa using h3
        rw [if_pos h3]
        rw [ev_fn T105]; (try simp only [Nat.add_assoc, Nat.reduceAdd] at s1 s2 s3); obtain ⟨call, hcall⟩ : ∃ call, call = evFun T (D + 7) := ⟨_, rfl⟩; rw [← hcall] at s1 s2 s3 ⊢; clear hcall; simp (maxSteps := 2000000) [ir105, Bd.row, s1, s2, s3, e4]
    · have e4 : (overE b.p b.q b.m != 0) = true := by simpa using h2
      simp only [h2, not_false_eq_true, if_true]
      rw [ev_fn T105]; (try simp only [Nat.add_assoc, Nat.reduceAdd] at s1 s2); obtain ⟨call, hcall⟩ : ∃ call, call = evFun T (D + 7) := ⟨_, rfl⟩; rw [← hcall] at s1 s2 ⊢; clear hcall; simp (maxSteps := 2000000) [ir105, Bd.row, s1, s2, e4]
  · have e4 : (overE a.p a.q a.m != 0) = true := by simpa using h1
    simp only [h1, ne_eq, not_false_eq_true, if_true]
    rw [ev_fn T105]; (try simp only [Nat.add_assoc, Nat.reduceAdd] at s1); obtain ⟨call, hcall⟩ : ∃ call, call = evFun T (D + 7) := ⟨_, rfl⟩; rw [← hcall] at s1 ⊢; clear hcall; simp (maxSteps := 2000000) [ir105, Bd.row, s1, e4]
end Go.Ab

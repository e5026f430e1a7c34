/- Words for this claim: an evaluator of the program's functions, and what they come to. -/
import Derived.Test.YthknbnhchgbikaaQFw
set_option linter.all false
namespace Go.Ab
attribute [local simp] runFn args0 e_skip e_reg regC_some e_seq seqC_n seqC_e seqC_r e_cond condC_t condC_f e_block e_loop e_exit e_ret nextC_n nextC_e nextC_r nextK_n nextK_e nextK_r evReg evOps evOp wants fp St.ev St.get St.set St.sets St.put St.apply St.pre preK inB lk up del hits V.cells V.cellsG allPlain Cell.plain pure1 keysOf okUn noK Ev.apart meets mkV splice fillC binC unC mmC eqCs eqC resVs resV one export1 V.keys V.keys1 outKeys valsKeys cellsKeys Cell.keys Blk.keys elsKeys fpCall fpCallG noTup reach getAll outW newW names srcs capsOf onesOf slB rowsOf V.ren V.ren1 Cell.ren Loc.ren locsRen Blk.ren inR outR place nm St.sweep swept St.kill killR lmap delAll St.trim reachL expR ownGet b2i_le wrap_u64 wrap_i64 bits_u64 bits_i64 or_u64 and_u64 Int.fdiv_eq_ediv_of_nonneg word mmC hits
set_option maxRecDepth 20000 in
set_option maxHeartbeats 8000000 in
theorem R_jerk (D : Nat) (A B : Int) {l lim : Int} (a b : Bd) (ka : a.ok) (kb : b.ok) (kl : mayI l) (klim : mayI lim) : evFun T (D+9) 50 [.agg [.int .i64 A, .int .i64 B, .int .i64 ((l) / 18446744073709551616), .int .u64 ((l) % 18446744073709551616), .int .i64 ((lim) / 18446744073709551616), .int .u64 ((lim) % 18446744073709551616)], .agg a.row, .agg b.row] [] = some (.agg [.int .i64 (((jerkS l lim a b).x) / 18446744073709551616), .int .u64 (((jerkS l lim a b).x) % 18446744073709551616), .int .i64 (((jerkS l lim a b).y) / 18446744073709551616), .int .u64 (((jerkS l lim a b).y) % 18446744073709551616), .bool (jerkS l lim a b).pulls, .bool (jerkS l lim a b).breaks, .int .i64 (jerkS l lim a b).e], [], []) := by
  have s1 := R_vsub (D+1) (okM_may kb.2.1) (okM_may kb.2.2.1) (okM_may ka.2.1) (okM_may ka.2.2.1)
  simp only [fv_dm] at s1
  unfold jerkS
  by_cases h1 : bothE (b.x - a.x) (b.y - a.y) = 0
  · rw [if_neg (by simpa using h1)]
    obtain ⟨fx, fy⟩ := bothE_zero.1 h1
    have ex : both1 (b.x - a.x) (b.y - a.y) = b.x - a.x := by unfold both1; rw [if_pos ⟨fx, fy⟩]
    have ey : both1 (b.y - a.y) (b.x - a.x) = b.y - a.y := by unfold both1; rw [if_pos ⟨fy, fx⟩]
    rw [h1, ex, ey] at s1
    have kx : mayI (b.x - a.x) := fitE_iff.1 fx
    have ky : mayI (b.y - a.y) := fitE_iff.1 fy
    generalize b.x - a.x = x at *
    generalize b.y - a.y = y at *
    have s2 := R_len2 (D+1) (okM_may kx) (okM_may ky)
    have m2 := R_mul (D+3) (okM_may kl) (okM_may kl)
    have q2 := E_rcmp (D+7) (okM_may (len2N_may x y)).f (okM_may (fitN_may (mulI l l))).f
    simp only [fv_dm] at s2 m2 q2
    unfold apartE apartIs
    unfold apartE
    by_cases h2 : len2E x y = 0
    · simp only [h2, if_true]
      rw [h2] at s2
      by_cases h2b : fitE (mulI l l) = 0
      · simp only [h2b, ne_eq, not_true_eq_false, if_false, decide_true, Bool.true_and]
        rw [h2b, fitN_of h2b] at m2
        rw [fitN_of h2b] at q2
        have c2 := cmp_le (a := len2N x y) (b := mulI l l)
        by_cases h3 : mulI l l < len2N x y
        · rw [decide_eq_true h3, if_neg (by simp)]
          rw [decide_eq_false (show ¬ len2N x y ≤ mulI l l by omega)] at c2
          generalize hM : cmpI (len2N x y) (mulI l l) = M at *
          have s3 := R_closing D a b ka kb (n := len2N x y) kx ky
          by_cases h4 : wE a b = 0
          · simp only [h4, ne_eq, not_true_eq_false, if_false]
            rw [if_neg (by simpa using h4)] at s3
            have kv := dotN_may x y (wX a b) (wY a b)
            by_cases h5 : dotE x y (wX a b) (wY a b) = 0
            · simp only [h5, ne_eq, not_true_eq_false, if_false]
              rw [if_neg (by simpa using h5)] at s3
              have s4 := E_rcmp (D+7) (okM_may kv).f okM_z.f
              rw [fv_dm, show fv 0 0 = 0 from rfl] at s4
              have c4 := cmp_le (a := dotN x y (wX a b) (wY a b)) (b := 0)
              generalize dotN x y (wX a b) (wY a b) = v at *
              simp only [Bd.row] at s3
              by_cases h6 : v ≤ 0
              · rw [if_pos h6]
                rw [decide_eq_true h6] at c4
                generalize cmpI v 0 = C at *
                rw [ev_fn T50]; (try simp only [Nat.add_assoc, Nat.reduceAdd] at s1 s2 m2 q2 s3 s4); obtain ⟨call, hcall⟩ : ∃ call, call = evFun T (D + 8) := ⟨_, rfl⟩; rw [← hcall] at s1 s2 m2 q2 s3 s4 ⊢; clear hcall; simp (maxSteps := 2000000) [ir50, Bd.row, s1, s2, m2, q2, c2, s3, s4, c4]
              · rw [if_neg h6]
                rw [decide_eq_false h6] at c4
                generalize cmpI v 0 = C at *
                have t1 := R_mass (D+2) a b ka.1 kb.1
                have t2 := R_mul (D+3) (okM_may (massN_may a.m b.m)) (okM_may kv)
                have t3 := R_div (D+3) (okM_may (fitN_may (mulI (massN a.m b.m) v))) (okM_may (len2N_may x y))
                simp only [fv_dm] at t2 t3
                simp only [Bd.row] at t1
                unfold hE hN
                by_cases g1 : massE a.m b.m = 0
                · simp only [g1, ne_eq, not_true_eq_false, if_false]
                  rw [g1] at t1
                  by_cases g2 : fitE (mulI (massN a.m b.m) v) = 0
                  · simp only [g2, ne_eq, not_true_eq_false, if_false]
                    rw [g2, fitN_of g2] at t2
                    rw [fitN_of g2] at t3
                    by_cases g3 : divE (mulI (massN a.m b.m) v) (len2N x y) = 0
                    · simp only [g3, ne_eq, not_true_eq_false, if_false]
                      rw [g3, (divE_fit g3).1] at t3
                      have t4 := R_scale (D+2) (okM_may kx) (okM_may ky) (okM_may (divE_fit g3).2)
                      simp only [fv_dm] at t4
                      generalize divI (mulI (massN a.m b.m) v) (len2N x y) = k at *
                      by_cases h8 : bothE (mulI x k) (mulI y k) = 0
                      · simp only [h8, ne_eq, not_true_eq_false, if_false]
                        obtain ⟨gx, gy⟩ := bothE_zero.1 h8
                        have e1 : both1 (mulI x k) (mulI y k) = mulI x k := by unfold both1; rw [if_pos ⟨gx, gy⟩]
                        have e2 : both1 (mulI y k) (mulI x k) = mulI y k := by unfold both1; rw [if_pos ⟨gy, gx⟩]
                        rw [h8, e1, e2] at t4
                        have s6 := R_length D (fitE_iff.1 gx) (fitE_iff.1 gy)
                        have s7 := E_rcmp (D+7) (okM_may (lenN_may (mulI x k) (mulI y k))).f (okM_may klim).f
                        simp only [fv_dm] at s7
                        have c7 := cmp_gt (a := lenN (mulI x k) (mulI y k)) (b := lim)
                        clear e1 e2
                        generalize mulI x k = X at *
                        generalize mulI y k = Y at *
                        by_cases h9 : lenE X Y = 0
                        · simp only [h9, ne_eq, not_true_eq_false, if_false]
                          rw [h9] at s6
                          by_cases h10 : lim < lenN X Y
                          · rw [if_pos h10]
                            rw [decide_eq_true h10] at c7
                            generalize cmpI (lenN X Y) lim = C' at *
                            rw [ev_fn T50]; (try simp only [Nat.add_assoc, Nat.reduceAdd] at s1 s2 m2 q2 s3 s4 t1 t2 t3 t4 s6 s7); obtain ⟨call, hcall⟩ : ∃ call, call = evFun T (D + 8) := ⟨_, rfl⟩; rw [← hcall] at s1 s2 m2 q2 s3 s4 t1 t2 t3 t4 s6 s7 ⊢; clear hcall; simp (maxSteps := 2000000) [ir50, Bd.row, s1, s2, m2, q2, c2, s3, s4, c4, t1, t2, t3, t4, s6, s7, c7]
                          · rw [if_neg h10]
                            rw [decide_eq_false h10] at c7
                            generalize cmpI (lenN X Y) lim = C' at *
                            rw [ev_fn T50]; (try simp only [Nat.add_assoc, Nat.reduceAdd] at s1 s2 m2 q2 s3 s4 t1 t2 t3 t4 s6 s7); obtain ⟨call, hcall⟩ : ∃ call, call = evFun T (D + 8) := ⟨_, rfl⟩; rw [← hcall] at s1 s2 m2 q2 s3 s4 t1 t2 t3 t4 s6 s7 ⊢; clear hcall; simp (maxSteps := 2000000) [ir50, Bd.row, s1, s2, m2, q2, c2, s3, s4, c4, t1, t2, t3, t4, s6, s7, c7]
                        · have e4 : (lenE X Y != 0) = true := by simpa using h9
                          simp only [h9, ne_eq, not_false_eq_true, if_true]
                          rw [ev_fn T50]; (try simp only [Nat.add_assoc, Nat.reduceAdd] at s1 s2 m2 q2 s3 s4 t1 t2 t3 t4 s6); obtain ⟨call, hcall⟩ : ∃ call, call = evFun T (D + 8) := ⟨_, rfl⟩; rw [← hcall] at s1 s2 m2 q2 s3 s4 t1 t2 t3 t4 s6 ⊢; clear hcall; simp (maxSteps := 2000000) [ir50, Bd.row, s1, s2, m2, q2, c2, s3, s4, c4, t1, t2, t3, t4, s6, e4]
                      · have e4 : (bothE (mulI x k) (mulI y k) != 0) = true := by simpa using h8
                        simp only [h8, ne_eq, not_false_eq_true, if_true]
                        rw [ev_fn T50]; (try simp only [Nat.add_assoc, Nat.reduceAdd] at s1 s2 m2 q2 s3 s4 t1 t2 t3 t4); obtain ⟨call, hcall⟩ : ∃ call, call = evFun T (D + 8) := ⟨_, rfl⟩; rw [← hcall] at s1 s2 m2 q2 s3 s4 t1 t2 t3 t4 ⊢; clear hcall; simp (maxSteps := 2000000) [ir50, Bd.row, s1, s2, m2, q2, c2, s3, s4, c4, t1, t2, t3, t4, e4]
                    · have e4 : (divE (mulI (massN a.m b.m) v) (len2N x y) != 0) = true := by simpa using g3
                      simp only [g3, ne_eq, not_false_eq_true, if_true]
                      rw [ev_fn T50]; (try simp only [Nat.add_assoc, Nat.reduceAdd] at s1 s2 m2 q2 s3 s4 t1 t2 t3); obtain ⟨call, hcall⟩ : ∃ call, call = evFun T (D + 8) := ⟨_, rfl⟩; rw [← hcall] at s1 s2 m2 q2 s3 s4 t1 t2 t3 ⊢; clear hcall; simp (maxSteps := 2000000) [ir50, Bd.row, s1, s2, m2, q2, c2, s3, s4, c4, t1, t2, t3, e4]
                  · have e4 : (fitE (mulI (massN a.m b.m) v) != 0) = true := by simpa using g2
                    have e5 : (fitE (mulI (massN a.m b.m) v) == 0) = false := by simpa using g2
                    simp only [g2, ne_eq, not_false_eq_true, if_true]
                    rw [ev_fn T50]; (try simp only [Nat.add_assoc, Nat.reduceAdd] at s1 s2 m2 q2 s3 s4 t1 t2); obtain ⟨call, hcall⟩ : ∃ call, call = evFun T (D + 8) := ⟨_, rfl⟩; rw [← hcall] at s1 s2 m2 q2 s3 s4 t1 t2 ⊢; clear hcall; simp (maxSteps := 2000000) [ir50, Bd.row, s1, s2, m2, q2, c2, s3, s4, c4, t1, t2, e4, e5]
                · have e4 : (massE a.m b.m != 0) = true := by simpa using g1
                  have e5 : (massE a.m b.m == 0) = false := by simpa using g1
                  simp only [g1, ne_eq, not_false_eq_true, if_true]
                  rw [ev_fn T50]; (try simp only [Nat.add_assoc, Nat.reduceAdd] at s1 s2 m2 q2 s3 s4 t1); obtain ⟨call, hcall⟩ : ∃ call, call = evFun T (D + 8) := ⟨_, rfl⟩; rw [← hcall] at s1 s2 m2 q2 s3 s4 t1 ⊢; clear hcall; simp (maxSteps := 2000000) [ir50, Bd.row, s1, s2, m2, q2, c2, s3, s4, c4, t1, e4, e5]
            · have e4 : (dotE x y (wX a b) (wY a b) != 0) = true := by simpa using h5
              simp only [h5, ne_eq, not_false_eq_true, if_true]
              rw [if_pos h5] at s3
              simp only [Bd.row] at s3
              rw [ev_fn T50]; (try simp only [Nat.add_assoc, Nat.reduceAdd] at s1 s2 m2 q2 s3); obtain ⟨call, hcall⟩ : ∃ call, call = evFun T (D + 8) := ⟨_, rfl⟩; rw [← hcall] at s1 s2 m2 q2 s3 ⊢; clear hcall; simp (maxSteps := 2000000) [ir50, Bd.row, s1, s2, m2, q2, c2, s3, e4]
          · have e4 : (wE a b != 0) = true := by simpa using h4
            simp only [h4, ne_eq, not_false_eq_true, if_true]
            rw [if_pos h4] at s3
            simp only [Bd.row] at s3
            rw [ev_fn T50]; (try simp only [Nat.add_assoc, Nat.reduceAdd] at s1 s2 m2 q2 s3); obtain ⟨call, hcall⟩ : ∃ call, call = evFun T (D + 8) := ⟨_, rfl⟩; rw [← hcall] at s1 s2 m2 q2 s3 ⊢; clear hcall; simp (maxSteps := 2000000) [ir50, Bd.row, s1, s2, m2, q2, c2, s3, e4]
        · rw [decide_eq_false h3, if_pos rfl]
          rw [decide_eq_true (show len2N x y ≤ mulI l l by omega)] at c2
          generalize hM : cmpI (len2N x y) (mulI l l) = M at *
          rw [ev_fn T50]; (try simp only [Nat.add_assoc, Nat.reduceAdd] at s1 s2 m2 q2); obtain ⟨call, hcall⟩ : ∃ call, call = evFun T (D + 8) := ⟨_, rfl⟩; rw [← hcall] at s1 s2 m2 q2 ⊢; clear hcall; simp (maxSteps := 2000000) [ir50, Bd.row, s1, s2, m2, q2, c2]
      · have e4 : (fitE (mulI l l) != 0) = true := by simpa using h2b
        simp only [h2b, ne_eq, not_false_eq_true, if_true]
        rw [ev_fn T50]; (try simp only [Nat.add_assoc, Nat.reduceAdd] at s1 s2 m2); obtain ⟨call, hcall⟩ : ∃ call, call = evFun T (D + 8) := ⟨_, rfl⟩; rw [← hcall] at s1 s2 m2 ⊢; clear hcall; simp (maxSteps := 2000000) [ir50, Bd.row, s1, s2, m2, e4]
    · have e4 : (len2E x y != 0) = true := by simpa using h2
      simp only [h2, ne_eq, if_false, not_false_eq_true, if_true]
      rw [ev_fn T50]; (try simp only [Nat.add_assoc, Nat.reduceAdd] at s1 s2); obtain ⟨call, hcall⟩ : ∃ call, call = evFun T (D + 8) := ⟨_, rfl⟩; rw [← hcall] at s1 s2 ⊢; clear hcall; simp (maxSteps := 2000000) [ir50, Bd.row, s1, s2, e4]
  · have e4 : (bothE (b.x - a.x) (b.y - a.y) != 0) = true := by simpa using h1
    rw [if_pos h1]
    rw [ev_fn T50]; (try simp only [Nat.add_assoc, Nat.reduceAdd] at s1); obtain ⟨call, hcall⟩ : ∃ call, call = evFun T (D + 8) := ⟨_, rfl⟩; rw [← hcall] at s1 ⊢; clear hcall; simp (maxSteps := 2000000) [ir50, Bd.row, s1, e4]
end Go.Ab

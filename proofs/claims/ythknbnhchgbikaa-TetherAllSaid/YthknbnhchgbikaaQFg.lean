/- Words for this claim: an evaluator of the program's functions, and what they come to. -/
import Derived.Test.YthknbnhchgbikaaQFf
import Derived.Test.YthknbnhchgbikaaAb3
set_option linter.all false
namespace Go.Ab
attribute [local simp] runFn args0 e_skip e_reg regC_some e_seq seqC_n seqC_e seqC_r e_cond condC_t condC_f e_block e_loop e_exit e_ret nextC_n nextC_e nextC_r nextK_n nextK_e nextK_r evReg evOps evOp wants fp St.ev St.get St.set St.sets St.put St.apply St.pre preK inB lk up del hits V.cells V.cellsG allPlain Cell.plain pure1 keysOf okUn noK Ev.apart meets mkV splice fillC binC unC mmC eqCs eqC resVs resV one export1 V.keys V.keys1 outKeys valsKeys cellsKeys Cell.keys Blk.keys elsKeys fpCall fpCallG noTup reach getAll outW newW names srcs capsOf onesOf slB rowsOf V.ren V.ren1 Cell.ren Loc.ren locsRen Blk.ren inR outR place nm St.sweep swept St.kill killR lmap delAll St.trim reachL expR ownGet b2i_le wrap_u64 wrap_i64 bits_u64 bits_i64 or_u64 and_u64 Int.fdiv_eq_ediv_of_nonneg word mmC hits
theorem E_rint (D : Nat) {n : Int} (h : -9223372036854775807 ≤ n) : evFun T (D+1) 17 [.c (.int .i64 n)] [] = some (.agg [.int .i64 n, .int .u64 0], [], []) := by
  by_cases q : -9223372036854775807 < n
  · have e : ¬ (-9223372036854775807 > n) := by omega
    rw [ev_fn T17]; simp (maxSteps := 2000000) [ir17, e]
  · have e : n = -9223372036854775807 := by omega
    subst e
    rw [ev_fn T17]; simp (maxSteps := 2000000) [ir17]
theorem E_num (D : Nat) (n : Int) : evFun T (D+1) 19 [.c (.int .i64 n)] [] = some (.c (.int .i64 n), [], []) := by
  rw [ev_fn T19]; simp (maxSteps := 2000000) [ir19]
theorem okM_int {n : Int} (h : -9223372036854775807 ≤ n) (h' : n < 9223372036854775808) : okM n 0 := by unfold okM fv; omega
theorem okM_1 : okM 1 0 := okM_int (by omega) (by omega)
theorem ev_awake10 (D : Nat) : evFun T (D+10) 20 [] [] = some (.c (.bool true), [], []) := by
  have i1 := E_rint (D+8) (n := 1) (by omega)
  have n1 := fun n => E_num (D+8) n
  have p1 := E_pull D okM_1 okM_1 okM_1 okM_z okM_z okM_z okM_1
  have p2 := E_pull D okM_1 okM_1 okM_1 okM_1 okM_z okM_z okM_1
  have z : ∀ x, mulI (fv 0 0) x = 0 := fun x => zero_mulI x
  have z' : ∀ x, mulI x (fv 0 0) = 0 := fun x => mulI_zero x
  have m3 := mul_ww 1 1 (by omega) (by omega)
  have w1 : fitE 18446744073709551616 = 0 := fit_nn (by omega) (by omega)
  have w2 : fitN 18446744073709551616 = 18446744073709551616 := fitN_of w1
  have r0 : rootI 0 = 0 := by decide +kernel
  have m3' : mulI (fv 1 0) 18446744073709551616 = 18446744073709551616 := m3
  have m3'' : mulI 18446744073709551616 (fv 1 0) = 18446744073709551616 := m3
  have m4 : mulI (fv 1 0) (fv 1 0) = 18446744073709551616 := m3
  have e1 : pullE (fv 1 0) (fv 1 0) (fv 1 0) (fv 0 0) (fv 0 0) (fv 0 0) (fv 1 0) = 2 := by
    simp [pullE, pullK, len2N, len2E, doE, doN, doDE, doDN, doRE, doRN, divE, rootE, z, bothE, both1, fit_zero.1, fit_zero.2, r0, m4, m3', m3'', w1, w2]
  have hr : r2I (fv 1 0) (fv 0 0) (fv 0 0) = 18446744073709551616 := by unfold r2I; rw [z, m4]; rfl
  have hroot : rootI 18446744073709551616 = 18446744073709551616 := by decide +kernel
  have d1 : divI 18446744073709551616 18446744073709551616 = 18446744073709551616 := by decide +kernel
  have hf : forceI (fv 1 0) (fv 1 0) (fv 1 0) (fv 1 0) = 18446744073709551616 := by unfold forceI; rw [m4, m3', m3'']
  have hk : kI (fv 1 0) (fv 1 0) (fv 1 0) (fv 1 0) (fv 0 0) (fv 0 0) (fv 1 0) = 18446744073709551616 := by unfold kI; rw [hf, hr, hroot, d1, d1]
  obtain ⟨e2, e3, e4⟩ := pull_val (g := fv 1 0) (a := fv 1 0) (b := fv 1 0) (x := fv 1 0) (y := fv 0 0) (eps := fv 0 0) (h := fv 1 0) (by rw [m4]; exact w1) (by rw [z]; exact fitE_z) (by rw [z, m4]; exact w1) (by rw [z]; exact fitE_z) (by rw [hr]; exact w1) (by rw [hr]; omega)
    (by rw [m4]; exact w1) (by rw [m4, m3']; exact w1) (by rw [hf]; exact w1) (by rw [hf, hr, d1]; exact w1) (by rw [hk]; exact w1) (by rw [hk, m3']; exact w1) (by rw [z]; exact fitE_z)
  rw [hk, m3'] at e3
  rw [z] at e4
  rw [e1] at p1
  rw [e2, e3, e4] at p2
  rw [ev_fn T20]; (try simp only [Nat.add_assoc, Nat.reduceAdd] at i1 n1 p1 p2); obtain ⟨call, hcall⟩ : ∃ call, call = evFun T (D + 9) := ⟨_, rfl⟩; rw [← hcall] at i1 n1 p1 p2 ⊢; clear hcall; simp (maxSteps := 2000000) [ir20, i1, n1, p1, p2]
/-- A whole distance and Eps 1: all goes well, and without something nothing is got. -/
theorem none_line (g a b h d : Int) (hd : 0 ≤ d ∧ d ≤ 65535) (hg : 0 ≤ g ∧ g ≤ 1) (ha : 0 ≤ a ∧ a ≤ 65535) (hb : 0 ≤ b ∧ b ≤ 65535) (hh : 0 ≤ h ∧ h ≤ 1) (hz : g = 0 ∨ a = 0 ∨ b = 0 ∨ h = 0) :
    pullE (fv g 0) (fv a 0) (fv b 0) (fv (1 + d) 0) (fv 0 0) (fv 1 0) (fv h 0) = 0 ∧ pullX (fv g 0) (fv a 0) (fv b 0) (fv (1 + d) 0) (fv 0 0) (fv 1 0) (fv h 0) = 0 ∧ pullY (fv g 0) (fv a 0) (fv b 0) (fv (1 + d) 0) (fv 0 0) (fv 1 0) (fv h 0) = 0 := by
  have m1 := mul_ww (1 + d) (1 + d) (by omega) (by omega)
  have m2 := mul_ww 0 0 (by omega) (by omega)
  have m3 := mul_ww 1 1 (by omega) (by omega)
  have m4 := mul_ww a b (by omega) (by omega)
  have s1 := mul_small (m := 1 + d) (n := 1 + d) (a := 65536) (b := 65536) (by omega) (by omega) (by omega) (by omega)
  have s4 := mul_small (m := a) (n := b) (a := 65535) (b := 65535) (by omega) (by omega) (by omega) (by omega)
  have s5 := mul_small (m := g) (n := a * b) (a := 1) (b := 65535 * 65535) (by omega) (by omega) (by omega) (by omega)
  have m5 := mul_ww g (a * b) (by omega) (by omega)
  rw [fv_whole (a * b)] at m5
  have hr : r2I (fv (1 + d) 0) (fv 0 0) (fv 1 0) = ((1 + d) * (1 + d) + 1) * 18446744073709551616 := by unfold r2I; rw [m1, m2, m3]; omega
  have s6 := mul_small (m := g * (a * b)) (n := h) (a := 65535 * 65535) (b := 1) (by omega) (by omega) (by omega) (by omega)
  have m6 := mul_ww (g * (a * b)) h (by omega) (by omega)
  rw [fv_whole (g * (a * b))] at m6
  refine pull_none ?_ ?_ ?_ ?_ ?_ ?_ ?_ ?_ ?_
  · rw [m1]; exact fit_nn (by omega) (by omega)
  · rw [m2]; exact fit_nn (by omega) (by omega)
  · rw [m1, m2]; exact fit_nn (by omega) (by omega)
  · rw [m3]; exact fit_nn (by omega) (by omega)
  · rw [hr]; exact fit_nn (by omega) (by omega)
  · rw [hr]; omega
  · rw [m4]; exact fit_nn (by omega) (by omega)
  · rw [m4, m5]; exact fit_nn (by omega) (by omega)
  · unfold forceI
    rw [m4, m5, m6]
    rcases hz with rfl | rfl | rfl | rfl <;> simp
theorem none_place (a b : Int) (ha : 0 ≤ a ∧ a ≤ 65535) (hb : 0 ≤ b ∧ b ≤ 65535) :
    pullE (fv 1 0) (fv a 0) (fv b 0) (fv 0 0) (fv 0 0) (fv 1 0) (fv 1 0) = 0 ∧ pullX (fv 1 0) (fv a 0) (fv b 0) (fv 0 0) (fv 0 0) (fv 1 0) (fv 1 0) = 0 ∧ pullY (fv 1 0) (fv a 0) (fv b 0) (fv 0 0) (fv 0 0) (fv 1 0) (fv 1 0) = 0 := by
  have m2 := mul_ww 0 0 (by omega) (by omega)
  have m3 := mul_ww 1 1 (by omega) (by omega)
  have m4 := mul_ww a b (by omega) (by omega)
  have s4 := mul_small (m := a) (n := b) (a := 65535) (b := 65535) (by omega) (by omega) (by omega) (by omega)
  have m5 := mul_ww 1 (a * b) (by omega) (by omega)
  rw [fv_whole (a * b)] at m5
  have m6 := mul_ww (1 * (a * b)) 1 (by omega) (by omega)
  rw [fv_whole (1 * (a * b))] at m6
  have hr : r2I (fv 0 0) (fv 0 0) (fv 1 0) = 18446744073709551616 := by unfold r2I; rw [m2, m3]; omega
  have hroot : rootI 18446744073709551616 = 18446744073709551616 := by decide +kernel
  have hf : forceI (fv 1 0) (fv a 0) (fv b 0) (fv 1 0) = a * b * 18446744073709551616 := by unfold forceI; rw [m4, m5, m6]; omega
  have d1 : divI (a * b * 18446744073709551616) 18446744073709551616 = a * b * 18446744073709551616 := by
    rw [divI_nonneg (by omega) (by omega)]; generalize a * b = x at *; omega
  have hk : kI (fv 1 0) (fv a 0) (fv b 0) (fv 0 0) (fv 0 0) (fv 1 0) (fv 1 0) = a * b * 18446744073709551616 := by unfold kI; rw [hf, hr, hroot, d1, d1]
  have z : ∀ x, mulI (fv 0 0) x = 0 := fun x => zero_mulI x
  have := pull_val (g := fv 1 0) (a := fv a 0) (b := fv b 0) (x := fv 0 0) (y := fv 0 0) (eps := fv 1 0) (h := fv 1 0) (by rw [z]; exact fitE_z) (by rw [z]; exact fitE_z) (by rw [z]; exact fitE_z) (by rw [m3]; exact fit_nn (by omega) (by omega)) (by rw [hr]; exact fit_nn (by omega) (by omega)) (by rw [hr]; omega)
    (by rw [m4]; exact fit_nn (by omega) (by omega)) (by rw [m4, m5]; exact fit_nn (by omega) (by omega)) (by rw [hf]; exact fit_nn (by omega) (by omega)) (by rw [hf, hr, d1]; exact fit_nn (by omega) (by omega)) (by rw [hk]; exact fit_nn (by omega) (by omega)) (by rw [z]; exact fitE_z) (by rw [z]; exact fitE_z)
  rw [z] at this
  exact this
theorem conv_u16 {a : Int} (h : 0 ≤ a ∧ a ≤ 65535) : (a + 9223372036854775808) % 18446744073709551616 - 9223372036854775808 = a := by omega
theorem none_ev (D : Nat) (a b d wh : Int) (ha : 0 ≤ a ∧ a ≤ 65535) (hb : 0 ≤ b ∧ b ≤ 65535) (hd : 0 ≤ d ∧ d ≤ 65535) (hw : 0 ≤ wh) : evFun T (D+11) 3 [.c (.int .u16 a), .c (.int .u16 b), .c (.int .u16 d), .c (.int .u8 wh)] [] = some (.c (.bool true), [], []) := by
  have i1 := E_rint (D+9) (n := 1) (by omega)
  have ia := E_rint (D+9) (n := a) (by omega)
  have ib := E_rint (D+9) (n := b) (by omega)
  have id := E_rint (D+9) (n := 1 + d) (by omega)
  have n1 := fun n => E_num (D+9) n
  have ca := conv_u16 ha
  have cb := conv_u16 hb
  have cd := conv_u16 hd
  have cd1 : (1 + d + 9223372036854775808) % 18446744073709551616 - 9223372036854775808 = 1 + d := by omega
  have ka : okM a 0 := okM_int (by omega) (by omega)
  have kb : okM b 0 := okM_int (by omega) (by omega)
  have kd : okM (1 + d) 0 := okM_int (by omega) (by omega)
  have p2 := E_pull (D+1) okM_1 ka kb okM_z okM_z okM_1 okM_1
  obtain ⟨s1, s2, s3⟩ := none_place a b ha hb
  rw [s1, s2, s3] at p2
  have aw := ev_awake10 D
  have hr : wh.tmod 4 = 0 ∨ wh.tmod 4 = 1 ∨ wh.tmod 4 = 2 ∨ wh.tmod 4 = 3 := by rw [Int.tmod_eq_emod_of_nonneg hw]; omega
  rcases hr with hr | hr | hr | hr
  · have p1 := E_pull (D+1) okM_1 okM_z kb kd okM_z okM_1 okM_1
    obtain ⟨t1, t2, t3⟩ := none_line 1 0 b 1 d hd (by omega) (by omega) hb (by omega) (by simp)
    rw [t1, t2, t3] at p1
    rw [ev_fn T3]; (try simp only [Nat.add_assoc, Nat.reduceAdd] at i1 ia ib id n1 p1 p2 aw); obtain ⟨call, hcall⟩ : ∃ call, call = evFun T (D + 10) := ⟨_, rfl⟩; rw [← hcall] at i1 ia ib id n1 p1 p2 aw ⊢; clear hcall; simp (maxSteps := 2000000) [ir3, i1, ia, ib, id, ca, cb, cd, cd1, p1, p2, aw, hr, n1]
  · have p1 := E_pull (D+1) okM_1 ka okM_z kd okM_z okM_1 okM_1
    obtain ⟨t1, t2, t3⟩ := none_line 1 a 0 1 d hd (by omega) ha (by omega) (by omega) (by simp)
    rw [t1, t2, t3] at p1
    rw [ev_fn T3]; (try simp only [Nat.add_assoc, Nat.reduceAdd] at i1 ia ib id n1 p1 p2 aw); obtain ⟨call, hcall⟩ : ∃ call, call = evFun T (D + 10) := ⟨_, rfl⟩; rw [← hcall] at i1 ia ib id n1 p1 p2 aw ⊢; clear hcall; simp (maxSteps := 2000000) [ir3, i1, ia, ib, id, ca, cb, cd, cd1, p1, p2, aw, hr, n1]
  · have p1 := E_pull (D+1) okM_z ka kb kd okM_z okM_1 okM_1
    obtain ⟨t1, t2, t3⟩ := none_line 0 a b 1 d hd (by omega) ha hb (by omega) (by simp)
    rw [t1, t2, t3] at p1
    rw [ev_fn T3]; (try simp only [Nat.add_assoc, Nat.reduceAdd] at i1 ia ib id n1 p1 p2 aw); obtain ⟨call, hcall⟩ : ∃ call, call = evFun T (D + 10) := ⟨_, rfl⟩; rw [← hcall] at i1 ia ib id n1 p1 p2 aw ⊢; clear hcall; simp (maxSteps := 2000000) [ir3, i1, ia, ib, id, ca, cb, cd, cd1, p1, p2, aw, hr, n1]
  · have p1 := E_pull (D+1) okM_1 ka kb kd okM_z okM_1 okM_z
    obtain ⟨t1, t2, t3⟩ := none_line 1 a b 0 d hd (by omega) ha hb (by omega) (by simp)
    rw [t1, t2, t3] at p1
    rw [ev_fn T3]; (try simp only [Nat.add_assoc, Nat.reduceAdd] at i1 ia ib id n1 p1 p2 aw); obtain ⟨call, hcall⟩ : ∃ call, call = evFun T (D + 10) := ⟨_, rfl⟩; rw [← hcall] at i1 ia ib id n1 p1 p2 aw ⊢; clear hcall; simp (maxSteps := 2000000) [ir3, i1, ia, ib, id, ca, cb, cd, cd1, p1, p2, aw, hr, n1]
end Go.Ab

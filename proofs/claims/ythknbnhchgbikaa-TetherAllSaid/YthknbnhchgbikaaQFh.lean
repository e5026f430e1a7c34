/- Words for this claim: an evaluator of the program's functions, and what they come to. -/
import Derived.Test.YthknbnhchgbikaaQFg
set_option linter.all false
namespace Go.Ab
attribute [local simp] runFn args0 e_skip e_reg regC_some e_seq seqC_n seqC_e seqC_r e_cond condC_t condC_f e_block e_loop e_exit e_ret nextC_n nextC_e nextC_r nextK_n nextK_e nextK_r evReg evOps evOp wants fp St.ev St.get St.set St.sets St.put St.apply St.pre preK inB lk up del hits V.cells V.cellsG allPlain Cell.plain pure1 keysOf okUn noK Ev.apart meets mkV splice fillC binC unC mmC eqCs eqC resVs resV one export1 V.keys V.keys1 outKeys valsKeys cellsKeys Cell.keys Blk.keys elsKeys fpCall fpCallG noTup reach getAll outW newW names srcs capsOf onesOf slB rowsOf V.ren V.ren1 Cell.ren Loc.ren locsRen Blk.ren inR outR place nm St.sweep swept St.kill killR lmap delAll St.trim reachL expR ownGet b2i_le wrap_u64 wrap_i64 bits_u64 bits_i64 or_u64 and_u64 Int.fdiv_eq_ediv_of_nonneg word mmC hits
theorem E_rcmp (D : Nat) {h1 l1 h2 l2 : Int} (k1 : okF h1 l1) (k2 : okF h2 l2) : evFun T (D+1) 21 [.agg [.int .i64 h1, .int .u64 l1], .agg [.int .i64 h2, .int .u64 l2]] [] = some (.c (.int .i64 (cmpI (fv h1 l1) (fv h2 l2))), [], []) := by
  unfold okF at k1 k2
  have e : cmpI (fv h1 l1) (fv h2 l2) = if h1 < h2 then -1 else if h1 = h2 then (if l1 < l2 then -1 else if l1 = l2 then 0 else 1) else 1 := by
    unfold cmpI fv
    repeat' split
    all_goals omega
  rw [e]
  by_cases q1 : h1 < h2
  · have e1 : decide (h1 < h2) = true := by simpa using q1
    rw [if_pos q1]
    rw [ev_fn T21]; simp (maxSteps := 2000000) [ir21, e1]
  · have e1 : decide (h1 < h2) = false := by simpa using q1
    rw [if_neg q1]
    by_cases q2 : h1 = h2
    · subst q2
      rw [if_pos rfl]
      by_cases q3 : l1 < l2
      · have e3 : decide (l1 < l2) = true := by simpa using q3
        rw [if_pos q3]
        rw [ev_fn T21]; simp (maxSteps := 2000000) [ir21, e3]
      · have e3 : decide (l1 < l2) = false := by simpa using q3
        rw [if_neg q3]
        by_cases q4 : l1 = l2
        · subst q4
          rw [if_pos rfl]
          rw [ev_fn T21]; simp (maxSteps := 2000000) [ir21, e3]
        · have e4 : (l1 == l2) = false := by simpa using q4
          rw [if_neg q4]
          rw [ev_fn T21]; simp (maxSteps := 2000000) [ir21, e3, e4]
    · have e2 : (h1 == h2) = false := by simpa using q2
      rw [if_neg q2]
      rw [ev_fn T21]; simp (maxSteps := 2000000) [ir21, e1, e2]
theorem E_rmay1 (D : Nat) {h l : Int} (k : okM h l) : evFun T (D+1) 22 [.agg [.int .i64 h, .int .u64 l]] [] = some (.c (.bool true), [], []) := by
  by_cases q : h = -9223372036854775808
  · subst q
    have q2 : ¬ l = 0 := by rintro rfl; have := k.2.2.2.2; unfold fv at this; omega
    have e2 : (l != 0) = true := by simpa using q2
    rw [ev_fn T22]; simp (maxSteps := 2000000) [ir22, e2]
  · have e1 : (h != -9223372036854775808) = true := by simpa using q
    rw [ev_fn T22]; simp (maxSteps := 2000000) [ir22, e1]
theorem E_rmay0 (D : Nat) {h l : Int} (k : okF h l) (n : ¬ okM h l) : evFun T (D+1) 22 [.agg [.int .i64 h, .int .u64 l]] [] = some (.c (.bool false), [], []) := by
  have e : h = -9223372036854775808 ∧ l = 0 := by
    unfold okM fv at n; unfold okF at k; omega
  obtain ⟨rfl, rfl⟩ := e
  rw [ev_fn T22]; simp (maxSteps := 2000000) [ir22]
theorem div_W (x : Int) (h : 0 ≤ x) : divI x 18446744073709551616 = x := by
  rw [divI_nonneg h (by omega)]; omega
theorem rootI_W : rootI 18446744073709551616 = 18446744073709551616 := by decide +kernel
theorem okM_pullX (g a b x y eps h : Int) : okM (pullX g a b x y eps h / 18446744073709551616) (pullX g a b x y eps h % 18446744073709551616) := by
  unfold pullX
  simp only
  split
  · exact okM_both _ _
  · exact okM_z
theorem okM_pullY (g a b x y eps h : Int) : okM (pullY g a b x y eps h / 18446744073709551616) (pullY g a b x y eps h % 18446744073709551616) := by
  unfold pullY
  simp only
  split
  · exact okM_both _ _
  · exact okM_z
/-- The pull on a line. -/
theorem line_val (m n r e : Int) (hm : 1 ≤ m ∧ m ≤ 256) (hn : 1 ≤ n ∧ n ≤ 256) (hr : 1 ≤ r ∧ r ≤ 256) (he : 0 ≤ e ∧ e ≤ 255) :
    pullE (fv 1 0) (fv m 0) (fv n 0) (fv r 0) (fv 0 0) (fv e 0) (fv 1 0) = 0 ∧ pullY (fv 1 0) (fv m 0) (fv n 0) (fv r 0) (fv 0 0) (fv e 0) (fv 1 0) = 0 ∧
    pullX (fv 1 0) (fv m 0) (fv n 0) (fv r 0) (fv 0 0) (fv e 0) (fv 1 0) = r * divI (divI (m * n * 18446744073709551616) ((r * r + e * e) * 18446744073709551616)) (rootI ((r * r + e * e) * 18446744073709551616)) ∧
    0 ≤ divI (divI (m * n * 18446744073709551616) ((r * r + e * e) * 18446744073709551616)) (rootI ((r * r + e * e) * 18446744073709551616)) := by
  have m1 := mul_ww r r (by omega) (by omega)
  have m2 := mul_ww e e (by omega) (by omega)
  have m4 := mul_ww m n (by omega) (by omega)
  have s1 := mul_small (m := r) (n := r) (a := 256) (b := 256) (by omega) (by omega) (by omega) (by omega)
  have s1' : 1 * 1 ≤ r * r := Int.mul_le_mul hr.1 hr.1 (by omega) (by omega)
  have s2 := mul_small (m := e) (n := e) (a := 255) (b := 255) (by omega) (by omega) (by omega) (by omega)
  have s4 := mul_small (m := m) (n := n) (a := 256) (b := 256) (by omega) (by omega) (by omega) (by omega)
  have z : ∀ x, mulI (fv 0 0) x = 0 := fun x => zero_mulI x
  have m5 := mul_ww 1 (m * n) (by omega) (by omega)
  rw [fv_whole (m * n), Int.one_mul] at m5
  have m6 := mul_ww (m * n) 1 (by omega) (by omega)
  rw [fv_whole (m * n), Int.mul_one] at m6
  have hr2 : r2I (fv r 0) (fv 0 0) (fv e 0) = (r * r + e * e) * 18446744073709551616 := by unfold r2I; rw [m1, z, m2]; omega
  have hf : forceI (fv 1 0) (fv m 0) (fv n 0) (fv 1 0) = m * n * 18446744073709551616 := by unfold forceI; rw [m4, m5, m6]
  have hk : kI (fv 1 0) (fv m 0) (fv n 0) (fv r 0) (fv 0 0) (fv e 0) (fv 1 0) = divI (divI (m * n * 18446744073709551616) ((r * r + e * e) * 18446744073709551616)) (rootI ((r * r + e * e) * 18446744073709551616)) := by unfold kI; rw [hf, hr2]
  have hq0 : 0 ≤ divI (m * n * 18446744073709551616) ((r * r + e * e) * 18446744073709551616) := divI_ge (by omega) (by omega)
  have hq1 := divI_anti (a := m * n * 18446744073709551616) (b := 18446744073709551616) (b' := (r * r + e * e) * 18446744073709551616) (by omega) (by omega) (by omega)
  rw [div_W _ (by omega)] at hq1
  have hro : 18446744073709551616 ≤ rootI ((r * r + e * e) * 18446744073709551616) := by
    have := sqrtI_mono (a := 18446744073709551616 * 18446744073709551616) (b := (r * r + e * e) * 18446744073709551616 * 18446744073709551616) (by omega) (by omega) (by omega)
    have e1 : rootI ((r * r + e * e) * 18446744073709551616) = sqrtI ((r * r + e * e) * 18446744073709551616 * 18446744073709551616) := by unfold rootI; rw [if_neg (by omega)]
    have e2 : rootI 18446744073709551616 = sqrtI (18446744073709551616 * 18446744073709551616) := by unfold rootI; rw [if_neg (by omega)]
    rw [rootI_W] at e2
    omega
  have hk1 := divI_anti (b := 18446744073709551616) hq0 (by omega) hro
  rw [div_W _ hq0] at hk1
  have hk0 : 0 ≤ divI (divI (m * n * 18446744073709551616) ((r * r + e * e) * 18446744073709551616)) (rootI ((r * r + e * e) * 18446744073709551616)) := divI_ge hq0 (by omega)
  have hx : mulI (fv r 0) (divI (divI (m * n * 18446744073709551616) ((r * r + e * e) * 18446744073709551616)) (rootI ((r * r + e * e) * 18446744073709551616))) = r * divI (divI (m * n * 18446744073709551616) ((r * r + e * e) * 18446744073709551616)) (rootI ((r * r + e * e) * 18446744073709551616)) := by
    rw [fv_whole, mulI_whole r hk0 (by omega)]
  have sk := mul_small (m := r) (a := 256) (b := 65536 * 18446744073709551616) (by omega) (by omega) hk0 (by omega)
  obtain ⟨p1, p2, p3⟩ := pull_val (g := fv 1 0) (a := fv m 0) (b := fv n 0) (x := fv r 0) (y := fv 0 0) (eps := fv e 0) (h := fv 1 0) (by rw [m1]; exact fit_nn (by omega) (by omega)) (by rw [z]; exact fitE_z) (by rw [m1, z]; exact fit_nn (by omega) (by omega)) (by rw [m2]; exact fit_nn (by omega) (by omega)) (by rw [hr2]; exact fit_nn (by omega) (by omega)) (by rw [hr2]; omega)
    (by rw [m4]; exact fit_nn (by omega) (by omega)) (by rw [m4, m5]; exact fit_nn (by omega) (by omega)) (by rw [hf]; exact fit_nn (by omega) (by omega)) (by rw [hf, hr2]; exact fit_nn (by omega) (by omega)) (by rw [hk]; exact fit_nn (by omega) (by omega)) (by rw [hk, hx]; exact fit_nn sk.1 (by omega)) (by rw [z]; exact fitE_z)
  rw [hk, hx] at p2
  rw [z] at p3
  exact ⟨p1, p3, p2, hk0⟩
theorem line_mono (m n r e e' : Int) (hm : 1 ≤ m ∧ m ≤ 256) (hn : 1 ≤ n ∧ n ≤ 256) (hr : 1 ≤ r ∧ r ≤ 256) (he : 0 ≤ e) (hee : e ≤ e') (he' : e' ≤ 255) :
    r * divI (divI (m * n * 18446744073709551616) ((r * r + e' * e') * 18446744073709551616)) (rootI ((r * r + e' * e') * 18446744073709551616)) ≤ r * divI (divI (m * n * 18446744073709551616) ((r * r + e * e) * 18446744073709551616)) (rootI ((r * r + e * e) * 18446744073709551616)) := by
  have s1 := mul_small (m := r) (n := r) (a := 256) (b := 256) (by omega) (by omega) (by omega) (by omega)
  have s1' : 1 * 1 ≤ r * r := Int.mul_le_mul hr.1 hr.1 (by omega) (by omega)
  have s2 : e * e ≤ e' * e' := Int.mul_le_mul hee hee he (by omega)
  have s3 := mul_small (m := e') (n := e') (a := 255) (b := 255) (by omega) (by omega) (by omega) (by omega)
  have s0 := mul_small (m := e) (n := e) (a := 255) (b := 255) (by omega) (by omega) (by omega) (by omega)
  have s4 := mul_small (m := m) (n := n) (a := 256) (b := 256) (by omega) (by omega) (by omega) (by omega)
  refine Int.mul_le_mul_of_nonneg_left ?_ (by omega)
  obtain ⟨s, hs⟩ : ∃ s, s = r * r + e * e := ⟨_, rfl⟩
  obtain ⟨s', hs'⟩ : ∃ s, s = r * r + e' * e' := ⟨_, rfl⟩
  rw [← hs, ← hs']
  have b1 : 1 ≤ s := by omega
  have b2 : s ≤ s' := by omega
  have b3 : s' ≤ 130561 := by omega
  clear hs hs' s1 s1' s2 s3 s0
  have hq0 : 0 ≤ divI (m * n * 18446744073709551616) (s' * 18446744073709551616) := divI_ge (by omega) (by omega)
  have hq1 := divI_anti (a := m * n * 18446744073709551616) (b := s * 18446744073709551616) (b' := s' * 18446744073709551616) (by omega) (by omega) (by omega)
  have e1 : rootI (s * 18446744073709551616) = sqrtI (s * 18446744073709551616 * 18446744073709551616) := by unfold rootI; rw [if_neg (by omega)]
  have e2 : rootI (s' * 18446744073709551616) = sqrtI (s' * 18446744073709551616 * 18446744073709551616) := by unfold rootI; rw [if_neg (by omega)]
  have hm := sqrtI_mono (a := s * 18446744073709551616 * 18446744073709551616) (b := s' * 18446744073709551616 * 18446744073709551616) (by omega) (by omega) (by omega)
  have hp := (rootI_pos (r := s * 18446744073709551616) (by omega) (by omega)).2
  rw [← e1, ← e2] at hm
  exact Int.le_trans (divI_anti hq0 hp hm) (divI_mono hq0 hq1 hp)
set_option maxRecDepth 20000 in
theorem eps_ev (D : Nat) (m n r a b : Int) (hm : 0 ≤ m ∧ m ≤ 255) (hn : 0 ≤ n ∧ n ≤ 255) (hr : 0 ≤ r ∧ r ≤ 255) (ha : 0 ≤ a ∧ a ≤ 255) (hb : 0 ≤ b ∧ b ≤ 255) :
    evFun T (D+11) 4 [.c (.int .u8 m), .c (.int .u8 n), .c (.int .u8 r), .c (.int .u8 a), .c (.int .u8 b)] [] = some (.c (.bool true), [], []) := by
  obtain ⟨lo, hlo⟩ : ∃ lo, lo = if b < a then b else a := ⟨_, rfl⟩
  obtain ⟨hi, hhi⟩ : ∃ hi, hi = if a < b then b else a := ⟨_, rfl⟩
  have bl : 0 ≤ lo ∧ lo ≤ hi ∧ hi ≤ 255 := by
    rw [hlo, hhi]; repeat' split
    all_goals omega
  have v1 := line_val (1 + m) (1 + n) (1 + r) lo (by omega) (by omega) (by omega) (by omega)
  have v2 := line_val (1 + m) (1 + n) (1 + r) hi (by omega) (by omega) (by omega) (by omega)
  have v3 := line_mono (1 + m) (1 + n) (1 + r) lo hi (by omega) (by omega) (by omega) (by omega) (by omega) (by omega)
  rw [← v1.2.2.1, ← v2.2.2.1] at v3
  have v4 : 0 ≤ pullX (fv 1 0) (fv (1 + m) 0) (fv (1 + n) 0) (fv (1 + r) 0) (fv 0 0) (fv lo 0) (fv 1 0) := by rw [v1.2.2.1]; exact Int.mul_nonneg (by omega) v1.2.2.2
  have k1 : okM (1 + m) 0 := okM_int (by omega) (by omega)
  have k2 : okM (1 + n) 0 := okM_int (by omega) (by omega)
  have k3 : okM (1 + r) 0 := okM_int (by omega) (by omega)
  have kl : okM lo 0 := okM_int (by omega) (by omega)
  have kh : okM hi 0 := okM_int (by omega) (by omega)
  have p1 := E_pull (D+1) okM_1 k1 k2 k3 okM_z kl okM_1
  have p2 := E_pull (D+1) okM_1 k1 k2 k3 okM_z kh okM_1
  rw [v1.1, v1.2.1] at p1
  rw [v2.1, v2.2.1] at p2
  have f1 : okM (pullX (fv 1 0) (fv (1 + m) 0) (fv (1 + n) 0) (fv (1 + r) 0) (fv 0 0) (fv lo 0) (fv 1 0) / 18446744073709551616) (pullX (fv 1 0) (fv (1 + m) 0) (fv (1 + n) 0) (fv (1 + r) 0) (fv 0 0) (fv lo 0) (fv 1 0) % 18446744073709551616) := okM_pullX _ _ _ _ _ _ _
  have f2 : okM (pullX (fv 1 0) (fv (1 + m) 0) (fv (1 + n) 0) (fv (1 + r) 0) (fv 0 0) (fv hi 0) (fv 1 0) / 18446744073709551616) (pullX (fv 1 0) (fv (1 + m) 0) (fv (1 + n) 0) (fv (1 + r) 0) (fv 0 0) (fv hi 0) (fv 1 0) % 18446744073709551616) := okM_pullX _ _ _ _ _ _ _
  generalize pullX (fv 1 0) (fv (1 + m) 0) (fv (1 + n) 0) (fv (1 + r) 0) (fv 0 0) (fv lo 0) (fv 1 0) = X1 at *
  generalize pullX (fv 1 0) (fv (1 + m) 0) (fv (1 + n) 0) (fv (1 + r) 0) (fv 0 0) (fv hi 0) (fv 1 0) = X2 at *
  have c1 := E_rcmp (D+9) f1.f okF_z
  have c2 := E_rcmp (D+9) f2.f f1.f
  rw [fv_dm] at c1
  rw [fv_dm, fv_dm] at c2
  have g1 : decide (0 ≤ cmpI X1 (fv 0 0)) = true := by rw [fv_z]; unfold cmpI; simp; split <;> omega
  have g2 : decide (cmpI X2 X1 ≤ 0) = true := by rw [cmpI_le]; simpa using v3
  have i1 := E_rint (D+9) (n := 1) (by omega)
  have im := E_rint (D+9) (n := 1 + m) (by omega)
  have inn := E_rint (D+9) (n := 1 + n) (by omega)
  have ir := E_rint (D+9) (n := 1 + r) (by omega)
  have il := E_rint (D+9) (n := lo) (by omega)
  have ih := E_rint (D+9) (n := hi) (by omega)
  have n1 := fun n => E_num (D+9) n
  have aw := ev_awake10 D
  have cm := conv_u16 (a := m) (by omega)
  have cn := conv_u16 (a := n) (by omega)
  have cr := conv_u16 (a := r) (by omega)
  have cm1 := conv_u16 (a := 1 + m) (by omega)
  have cn1 := conv_u16 (a := 1 + n) (by omega)
  have cr1 := conv_u16 (a := 1 + r) (by omega)
  have cl := conv_u16 (a := lo) (by omega)
  have ch := conv_u16 (a := hi) (by omega)
  clear v1 v2 v3 v4 k1 k2 k3 kl kh f1 f2
  rw [ev_fn T4]; (try simp only [Nat.add_assoc, Nat.reduceAdd] at i1 im inn ir il ih n1 p1 p2 aw c1 c2); obtain ⟨call, hcall⟩ : ∃ call, call = evFun T (D + 10) := ⟨_, rfl⟩; rw [← hcall] at i1 im inn ir il ih n1 p1 p2 aw c1 c2 ⊢; clear hcall; simp (maxSteps := 2000000) [ir4, i1, im, inn, ir, il, ih, cm, cn, cr, cm1, cn1, cr1, cl, ch, p1, p2, aw, n1, c1, c2, g1, g2, ← hlo, ← hhi]
theorem across_ev (D : Nat) (a1 a2 b1 b2 x y h : Int) (ka : okF a1 a2) (kb : okF b1 b2) (hx : -2147483648 ≤ x ∧ x ≤ 2147483647) (hy : -2147483648 ≤ y ∧ y ≤ 2147483647) (hh : 0 ≤ h ∧ h ≤ 18446744073709551615) :
    evFun T (D+11) 5 [.agg [.int .i64 a1, .int .u64 a2], .agg [.int .i64 b1, .int .u64 b2], .c (.int .i32 x), .c (.int .i32 y), .c (.int .u64 h)] [] = some (.c (.bool true), [], []) := by
  have aw := ev_awake10 D
  have i1 := E_rint (D+9) (n := 1) (by omega)
  by_cases ma : okM a1 a2
  · have q1 := E_rmay1 (D+9) ma
    by_cases mb : okM b1 b2
    · have q2 := E_rmay1 (D+9) mb
      have cx : (x + 9223372036854775808) % 18446744073709551616 - 9223372036854775808 = x := by omega
      have cy : (y + 9223372036854775808) % 18446744073709551616 - 9223372036854775808 = y := by omega
      have kx : okM (x / 256) (y % 18446744073709551616) := by unfold okM fv; omega
      have ky : okM (y / 256) (x % 18446744073709551616) := by unfold okM fv; omega
      have kh : okM 0 h := by unfold okM fv; omega
      have p1 := E_pull (D+1) okM_1 ma mb kx ky okM_1 kh
      have p2 := E_pull (D+1) okM_1 ma mb ky kx okM_1 kh
      have w1 := pull_swap (fv 1 0) (fv a1 a2) (fv b1 b2) (fv (x / 256) (y % 18446744073709551616)) (fv (y / 256) (x % 18446744073709551616)) (fv 1 0) (fv 0 h)
      have w2 := pull_swap (fv 1 0) (fv a1 a2) (fv b1 b2) (fv (y / 256) (x % 18446744073709551616)) (fv (x / 256) (y % 18446744073709551616)) (fv 1 0) (fv 0 h)
      rw [w1.1, w1.2, ← w2.2] at p1
      clear w1 w2
      rw [ev_fn T5]; (try simp only [Nat.add_assoc, Nat.reduceAdd] at i1 p1 p2 aw q1 q2); obtain ⟨call, hcall⟩ : ∃ call, call = evFun T (D + 10) := ⟨_, rfl⟩; rw [← hcall] at i1 p1 p2 aw q1 q2 ⊢; clear hcall; simp (maxSteps := 2000000) [ir5, i1, p1, p2, aw, q1, q2, cx, cy]
    · have q2 := E_rmay0 (D+9) kb mb
      rw [ev_fn T5]; (try simp only [Nat.add_assoc, Nat.reduceAdd] at i1 aw q1 q2); obtain ⟨call, hcall⟩ : ∃ call, call = evFun T (D + 10) := ⟨_, rfl⟩; rw [← hcall] at i1 aw q1 q2 ⊢; clear hcall; simp (maxSteps := 2000000) [ir5, i1, aw, q1, q2]
  · have q1 := E_rmay0 (D+9) ka ma
    rw [ev_fn T5]; (try simp only [Nat.add_assoc, Nat.reduceAdd] at i1 aw q1); obtain ⟨call, hcall⟩ : ∃ call, call = evFun T (D + 10) := ⟨_, rfl⟩; rw [← hcall] at i1 aw q1 ⊢; clear hcall; simp (maxSteps := 2000000) [ir5, i1, aw, q1]
end Go.Ab

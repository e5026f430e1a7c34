/- Words for this claim: an evaluator of the program's functions, and what they come to. -/
import Derived.Test.YthknbnhchgbikaaQFt
import Derived.Test.YthknbnhchgbikaaQFn
set_option linter.all false
namespace Go.Ab
attribute [local simp] runFn args0 e_skip e_reg regC_some e_seq seqC_n seqC_e seqC_r e_cond condC_t condC_f e_block e_loop e_exit e_ret nextC_n nextC_e nextC_r nextK_n nextK_e nextK_r evReg evOps evOp wants fp St.ev St.get St.set St.sets St.put St.apply St.pre preK inB lk up del hits V.cells V.cellsG allPlain Cell.plain pure1 keysOf okUn noK Ev.apart meets mkV splice fillC binC unC mmC eqCs eqC resVs resV one export1 V.keys V.keys1 outKeys valsKeys cellsKeys Cell.keys Blk.keys elsKeys fpCall fpCallG noTup reach getAll outW newW names srcs capsOf onesOf slB rowsOf V.ren V.ren1 Cell.ren Loc.ren locsRen Blk.ren inR outR place nm St.sweep swept St.kill killR lmap delAll St.trim reachL expR ownGet b2i_le wrap_u64 wrap_i64 bits_u64 bits_i64 or_u64 and_u64 Int.fdiv_eq_ediv_of_nonneg word mmC hits
def aB (s : Int) : Bd := ⟨2 * 18446744073709551616, 0, 0, 0, s * 18446744073709551616, 0, 0, 0, 0, 0, 0⟩
def bB : Bd := ⟨2 * 18446744073709551616, 0, 4 * 18446744073709551616, 0, 0, 0, 0, 0, 0, 0, 0⟩
theorem aB_row (s : Int) : (aB s).row = [.int .i64 2, .int .u64 0, .int .i64 0, .int .u64 0, .int .i64 0, .int .u64 0, .int .i64 0, .int .u64 0, .int .i64 s, .int .u64 0, .int .i64 0, .int .u64 0, .int .i64 0, .int .u64 0, .int .i64 0, .int .u64 0, .int .i64 0, .int .u64 0, .int .i64 0, .int .i64 0] := by
  simp only [Bd.row, aB, List.cons.injEq, Cell.int.injEq, true_and, and_true]
  refine ⟨by omega, by omega, by omega, by omega, by omega, by omega, by omega, by omega, by omega, by omega, by omega, by omega, by omega, by omega, by omega, by omega, by omega, by omega⟩
theorem bB_row : bB.row = [.int .i64 2, .int .u64 0, .int .i64 0, .int .u64 0, .int .i64 4, .int .u64 0, .int .i64 0, .int .u64 0, .int .i64 0, .int .u64 0, .int .i64 0, .int .u64 0, .int .i64 0, .int .u64 0, .int .i64 0, .int .u64 0, .int .i64 0, .int .u64 0, .int .i64 0, .int .i64 0] := by
  simp only [Bd.row, bB, List.cons.injEq, Cell.int.injEq, true_and, and_true]
  refine ⟨by omega, by omega, by omega, by omega, by omega, by omega, by omega, by omega, by omega, by omega, by omega, by omega, by omega, by omega, by omega, by omega, by omega, by omega⟩
theorem aB_ok (s : Int) (h : -1000 ≤ s ∧ s ≤ 1000) : (aB s).ok := by
  unfold aB Bd.ok mayI; simp only; refine ⟨by omega, by omega, by omega, by omega, by omega⟩
theorem bB_ok : bB.ok := by unfold bB Bd.ok mayI; simp only; refine ⟨by omega, by omega, by omega, by omega, by omega⟩
/-- All goes well, but for the limit. -/
def goes (l : Int) (a b : Bd) (X : Int) (len : Int) : Prop :=
  bothE (b.x - a.x) (b.y - a.y) = 0 ∧ apartE l (b.x - a.x) (b.y - a.y) = 0 ∧ apartIs l (b.x - a.x) (b.y - a.y) = true ∧ wE a b = 0 ∧ dotE (b.x - a.x) (b.y - a.y) (wX a b) (wY a b) = 0 ∧ 0 < dotN (b.x - a.x) (b.y - a.y) (wX a b) (wY a b) ∧
  hE a.m b.m (dotN (b.x - a.x) (b.y - a.y) (wX a b) (wY a b)) (len2N (b.x - a.x) (b.y - a.y)) = 0 ∧
  mulI (b.x - a.x) (hN a.m b.m (dotN (b.x - a.x) (b.y - a.y) (wX a b) (wY a b)) (len2N (b.x - a.x) (b.y - a.y))) = X ∧ mulI (b.y - a.y) (hN a.m b.m (dotN (b.x - a.x) (b.y - a.y) (wX a b) (wY a b)) (len2N (b.x - a.x) (b.y - a.y))) = 0 ∧
  bothE X 0 = 0 ∧ lenE X 0 = 0 ∧ lenN X 0 = len
theorem goes_jerk {l lim X len : Int} {a b : Bd} (h : goes l a b X len) : jerkS l lim a b = if lim < len then ⟨0, 0, false, true, 0⟩ else ⟨X, 0, true, false, 0⟩ := by
  obtain ⟨h1, h2, h3, h4, h5, h6, h7, h8, h9, h10, h11, h12⟩ := h
  have h6' : ¬ dotN (b.x - a.x) (b.y - a.y) (wX a b) (wY a b) ≤ 0 := by omega
  unfold jerkS
  simp only [h1, h2, h3, h4, h5, h6', h7, h8, h9, h10, h11, h12, ne_eq, not_true_eq_false, if_false, Bool.true_eq_false]
theorem st_w : ∀ n : Fin 60, over1 (-2 * ((n.val : Int) + 1) * 18446744073709551616) 0 (2 * 18446744073709551616) = -(((n.val : Int) + 1) * 18446744073709551616) ∧ over1 0 (-2 * ((n.val : Int) + 1) * 18446744073709551616) (2 * 18446744073709551616) = 0 ∧ overE (-2 * ((n.val : Int) + 1) * 18446744073709551616) 0 (2 * 18446744073709551616) = 0 ∧
  over1 (2 * ((n.val : Int) + 1) * 18446744073709551616) 0 (2 * 18446744073709551616) = ((n.val : Int) + 1) * 18446744073709551616 ∧ over1 0 (2 * ((n.val : Int) + 1) * 18446744073709551616) (2 * 18446744073709551616) = 0 ∧ overE (2 * ((n.val : Int) + 1) * 18446744073709551616) 0 (2 * 18446744073709551616) = 0 := by decide +kernel
theorem st_0 : over1 0 0 (2 * 18446744073709551616) = 0 ∧ overE 0 0 (2 * 18446744073709551616) = 0 := by decide +kernel
theorem st_b : ∀ n : Fin 60, both1 (0 - -(((n.val : Int) + 1) * 18446744073709551616)) (0 - 0) = ((n.val : Int) + 1) * 18446744073709551616 ∧ both1 (0 - 0) (0 - -(((n.val : Int) + 1) * 18446744073709551616)) = 0 ∧ bothE (0 - -(((n.val : Int) + 1) * 18446744073709551616)) (0 - 0) = 0 ∧
  both1 (-(((n.val : Int) + 1) * 18446744073709551616) - 0) (0 - 0) = -(((n.val : Int) + 1) * 18446744073709551616) ∧ both1 (0 - 0) (-(((n.val : Int) + 1) * 18446744073709551616) - 0) = 0 ∧ bothE (-(((n.val : Int) + 1) * 18446744073709551616) - 0) (0 - 0) = 0 ∧
  both1 (0 - ((n.val : Int) + 1) * 18446744073709551616) (0 - 0) = -(((n.val : Int) + 1) * 18446744073709551616) ∧ both1 (0 - 0) (0 - ((n.val : Int) + 1) * 18446744073709551616) = 0 ∧ bothE (0 - ((n.val : Int) + 1) * 18446744073709551616) (0 - 0) = 0 := by decide +kernel
theorem st_d : ∀ n : Fin 60, dotN (4 * 18446744073709551616) 0 (((n.val : Int) + 1) * 18446744073709551616) 0 = 4 * ((n.val : Int) + 1) * 18446744073709551616 ∧ dotE (4 * 18446744073709551616) 0 (((n.val : Int) + 1) * 18446744073709551616) 0 = 0 ∧
  dotN (-(4 * 18446744073709551616)) 0 (-(((n.val : Int) + 1) * 18446744073709551616)) 0 = 4 * ((n.val : Int) + 1) * 18446744073709551616 ∧ dotE (-(4 * 18446744073709551616)) 0 (-(((n.val : Int) + 1) * 18446744073709551616)) 0 = 0 ∧
  dotN (4 * 18446744073709551616) 0 (-(((n.val : Int) + 1) * 18446744073709551616)) 0 = -(4 * ((n.val : Int) + 1) * 18446744073709551616) ∧ dotE (4 * 18446744073709551616) 0 (-(((n.val : Int) + 1) * 18446744073709551616)) 0 = 0 := by decide +kernel
theorem st_l : len2N (4 * 18446744073709551616) 0 = 16 * 18446744073709551616 ∧ len2N (-(4 * 18446744073709551616)) 0 = 16 * 18446744073709551616 ∧ apartE (3 * 18446744073709551616) (4 * 18446744073709551616) 0 = 0 ∧ apartIs (3 * 18446744073709551616) (4 * 18446744073709551616) 0 = true ∧ apartE (3 * 18446744073709551616) (-(4 * 18446744073709551616)) 0 = 0 ∧ apartIs (3 * 18446744073709551616) (-(4 * 18446744073709551616)) 0 = true ∧ apartE (5 * 18446744073709551616) (4 * 18446744073709551616) 0 = 0 ∧ apartIs (5 * 18446744073709551616) (4 * 18446744073709551616) 0 = false ∧ bothE (4 * 18446744073709551616) 0 = 0 ∧ bothE (-(4 * 18446744073709551616)) 0 = 0 ∧ massE (2 * 18446744073709551616) (2 * 18446744073709551616) = 0 ∧ massN (2 * 18446744073709551616) (2 * 18446744073709551616) = 18446744073709551616 := by decide +kernel
theorem st_h : ∀ n : Fin 60, mulI 18446744073709551616 (4 * ((n.val : Int) + 1) * 18446744073709551616) = 4 * ((n.val : Int) + 1) * 18446744073709551616 ∧ fitE (4 * ((n.val : Int) + 1) * 18446744073709551616) = 0 ∧ divE (4 * ((n.val : Int) + 1) * 18446744073709551616) (16 * 18446744073709551616) = 0 ∧ divI (4 * ((n.val : Int) + 1) * 18446744073709551616) (16 * 18446744073709551616) = ((n.val : Int) + 1) * 4611686018427387904 ∧
  mulI (4 * 18446744073709551616) (((n.val : Int) + 1) * 4611686018427387904) = ((n.val : Int) + 1) * 18446744073709551616 ∧ mulI (-(4 * 18446744073709551616)) (((n.val : Int) + 1) * 4611686018427387904) = -(((n.val : Int) + 1) * 18446744073709551616) ∧ mulI 0 (((n.val : Int) + 1) * 4611686018427387904) = 0 := by decide +kernel
theorem st_len : ∀ n : Fin 60, bothE (((n.val : Int) + 1) * 18446744073709551616) 0 = 0 ∧ bothE (-(((n.val : Int) + 1) * 18446744073709551616)) 0 = 0 ∧ len2E (((n.val : Int) + 1) * 18446744073709551616) 0 = 0 ∧ len2E (-(((n.val : Int) + 1) * 18446744073709551616)) 0 = 0 ∧ len2N (((n.val : Int) + 1) * 18446744073709551616) 0 = ((n.val : Int) + 1) * ((n.val : Int) + 1) * 18446744073709551616 ∧ len2N (-(((n.val : Int) + 1) * 18446744073709551616)) 0 = ((n.val : Int) + 1) * ((n.val : Int) + 1) * 18446744073709551616 := by decide +kernel
theorem st_root : ∀ n : Fin 60, rootE (((n.val : Int) + 1) * ((n.val : Int) + 1) * 18446744073709551616) = 0 ∧ rootI (((n.val : Int) + 1) * ((n.val : Int) + 1) * 18446744073709551616) = ((n.val : Int) + 1) * 18446744073709551616 := by decide +kernel
theorem aB_d (s : Int) : bB.x - (aB s).x = 4 * 18446744073709551616 ∧ bB.y - (aB s).y = 0 ∧ (aB s).x - bB.x = -(4 * 18446744073709551616) ∧ (aB s).y - bB.y = 0 := ⟨rfl, rfl, rfl, rfl⟩
theorem aB_f (s : Int) : (aB s).p = s * 18446744073709551616 ∧ (aB s).q = 0 ∧ (aB s).m = 2 * 18446744073709551616 ∧ bB.p = 0 ∧ bB.q = 0 ∧ bB.m = 2 * 18446744073709551616 := ⟨rfl, rfl, rfl, rfl, rfl, rfl⟩
theorem goes1 (n : Fin 60) : goes (3 * 18446744073709551616) (aB (-2 * ((n.val : Int) + 1))) bB (((n.val : Int) + 1) * 18446744073709551616) (((n.val : Int) + 1) * 18446744073709551616) := by
  obtain ⟨d1, d2, d3, d4⟩ := aB_d (-2 * ((n.val : Int) + 1))
  obtain ⟨f1, f2, f3, f4, f5, f6⟩ := aB_f (-2 * ((n.val : Int) + 1))
  obtain ⟨w1, w2, w3, _⟩ := st_w n
  obtain ⟨z1, z2⟩ := st_0
  obtain ⟨b1, b2, b3, b4, b5, b6, _⟩ := st_b n
  obtain ⟨e1, e2, e3, e4, _⟩ := st_d n
  obtain ⟨l1, l2, l3, l4, l5, l6, _, _, l9, l10, m1, m2⟩ := st_l
  obtain ⟨h1, h2, h3, h4, h5, h6, h7⟩ := st_h n
  obtain ⟨g1, g2, g3, g4, g5, g6⟩ := st_len n
  obtain ⟨r1, r2⟩ := st_root n
  have hw1 : wX (aB (-2 * ((n.val : Int) + 1))) bB = ((n.val : Int) + 1) * 18446744073709551616 := by unfold wX; rw [f1, f2, f3, f4, f5, f6, w1, w2, z1]; exact b1
  have hw2 : wY (aB (-2 * ((n.val : Int) + 1))) bB = 0 := by unfold wY; rw [f1, f2, f3, f4, f5, f6, w1, w2, z1]; exact b2
  have hw3 : wE (aB (-2 * ((n.val : Int) + 1))) bB = 0 := by unfold wE; rw [f1, f2, f3, f4, f5, f6, w1, w2, z1, w3, z2, if_neg (by simp), if_neg (by simp)]; exact b3
  unfold goes hE hN lenE lenN
  rw [hw1, hw2, hw3]
  simp only [d1, d2, d3, d4, f3, f6]
  simp only [e1, e2, e3, e4, l1, l2, l3, l4, l5, l6, l9, l10, m1, m2, h1, h2, h3, h4, h5, h6, h7, g1, g2, g3, g4, g5, g6, r1, r2, ne_eq, not_true_eq_false, if_false, if_true, true_and, and_true]
  omega
theorem goes2 (n : Fin 60) : goes (3 * 18446744073709551616) bB (aB (-2 * ((n.val : Int) + 1))) (-(((n.val : Int) + 1) * 18446744073709551616)) (((n.val : Int) + 1) * 18446744073709551616) := by
  obtain ⟨d1, d2, d3, d4⟩ := aB_d (-2 * ((n.val : Int) + 1))
  obtain ⟨f1, f2, f3, f4, f5, f6⟩ := aB_f (-2 * ((n.val : Int) + 1))
  obtain ⟨w1, w2, w3, _⟩ := st_w n
  obtain ⟨z1, z2⟩ := st_0
  obtain ⟨b1, b2, b3, b4, b5, b6, _⟩ := st_b n
  obtain ⟨e1, e2, e3, e4, _⟩ := st_d n
  obtain ⟨l1, l2, l3, l4, l5, l6, _, _, l9, l10, m1, m2⟩ := st_l
  obtain ⟨h1, h2, h3, h4, h5, h6, h7⟩ := st_h n
  obtain ⟨g1, g2, g3, g4, g5, g6⟩ := st_len n
  obtain ⟨r1, r2⟩ := st_root n
  have hw1 : wX bB (aB (-2 * ((n.val : Int) + 1))) = -(((n.val : Int) + 1) * 18446744073709551616) := by unfold wX; rw [f1, f2, f3, f4, f5, f6, w1, w2, z1]; exact b4
  have hw2 : wY bB (aB (-2 * ((n.val : Int) + 1))) = 0 := by unfold wY; rw [f1, f2, f3, f4, f5, f6, w1, w2, z1]; exact b5
  have hw3 : wE bB (aB (-2 * ((n.val : Int) + 1))) = 0 := by unfold wE; rw [f1, f2, f3, f4, f5, f6, w1, w2, z1, w3, z2, if_neg (by simp), if_neg (by simp)]; exact b6
  unfold goes hE hN lenE lenN
  rw [hw1, hw2, hw3]
  simp only [d1, d2, d3, d4, f3, f6]
  simp only [e1, e2, e3, e4, l1, l2, l3, l4, l5, l6, l9, l10, m1, m2, h1, h2, h3, h4, h5, h6, h7, g1, g2, g3, g4, g5, g6, r1, r2, ne_eq, not_true_eq_false, if_false, if_true, true_and, and_true]
  omega
theorem near_jerk {l lim : Int} {a b : Bd} (h1 : bothE (b.x - a.x) (b.y - a.y) = 0) (h2 : apartE l (b.x - a.x) (b.y - a.y) = 0) (h3 : apartIs l (b.x - a.x) (b.y - a.y) = false) : jerkS l lim a b = ⟨0, 0, false, false, 0⟩ := by
  unfold jerkS
  simp only [h1, h2, h3, ne_eq, not_true_eq_false, if_false, if_true]
theorem come_jerk {l lim : Int} {a b : Bd} (h1 : bothE (b.x - a.x) (b.y - a.y) = 0) (h2 : apartE l (b.x - a.x) (b.y - a.y) = 0) (h3 : apartIs l (b.x - a.x) (b.y - a.y) = true) (h4 : wE a b = 0) (h5 : dotE (b.x - a.x) (b.y - a.y) (wX a b) (wY a b) = 0) (h6 : dotN (b.x - a.x) (b.y - a.y) (wX a b) (wY a b) ≤ 0) : jerkS l lim a b = ⟨0, 0, false, false, 0⟩ := by
  unfold jerkS
  simp only [h1, h2, h3, h4, h5, h6, ne_eq, not_true_eq_false, if_false, if_true, Bool.true_eq_false]
theorem goes3 (n : Fin 60) : bothE (bB.x - (aB (-2 * ((n.val : Int) + 1))).x) (bB.y - (aB (-2 * ((n.val : Int) + 1))).y) = 0 ∧ apartE (5 * 18446744073709551616) (bB.x - (aB (-2 * ((n.val : Int) + 1))).x) (bB.y - (aB (-2 * ((n.val : Int) + 1))).y) = 0 ∧ apartIs (5 * 18446744073709551616) (bB.x - (aB (-2 * ((n.val : Int) + 1))).x) (bB.y - (aB (-2 * ((n.val : Int) + 1))).y) = false := by
  obtain ⟨d1, d2, _⟩ := aB_d (-2 * ((n.val : Int) + 1))
  obtain ⟨_, _, _, _, _, _, l7, l8, l9, _⟩ := st_l
  rw [d1, d2]
  exact ⟨l9, l7, l8⟩
def comes (l : Int) (a b : Bd) : Prop := bothE (b.x - a.x) (b.y - a.y) = 0 ∧ apartE l (b.x - a.x) (b.y - a.y) = 0 ∧ apartIs l (b.x - a.x) (b.y - a.y) = true ∧ wE a b = 0 ∧ dotE (b.x - a.x) (b.y - a.y) (wX a b) (wY a b) = 0 ∧ dotN (b.x - a.x) (b.y - a.y) (wX a b) (wY a b) ≤ 0
theorem goes4 (n : Fin 60) : comes (3 * 18446744073709551616) (aB (2 * ((n.val : Int) + 1))) bB := by
  obtain ⟨d1, d2, d3, d4⟩ := aB_d (2 * ((n.val : Int) + 1))
  obtain ⟨f1, f2, f3, f4, f5, f6⟩ := aB_f (2 * ((n.val : Int) + 1))
  obtain ⟨_, _, _, w1, w2, w3⟩ := st_w n
  obtain ⟨z1, z2⟩ := st_0
  obtain ⟨_, _, _, _, _, _, b1, b2, b3⟩ := st_b n
  obtain ⟨_, _, _, _, e1, e2⟩ := st_d n
  obtain ⟨_, _, l3, l4, _, _, _, _, l9, _⟩ := st_l
  have hw1 : wX (aB (2 * ((n.val : Int) + 1))) bB = -(((n.val : Int) + 1) * 18446744073709551616) := by unfold wX; rw [f1, f2, f3, f4, f5, f6, w1, w2, z1]; exact b1
  have hw2 : wY (aB (2 * ((n.val : Int) + 1))) bB = 0 := by unfold wY; rw [f1, f2, f3, f4, f5, f6, w1, w2, z1]; exact b2
  have hw3 : wE (aB (2 * ((n.val : Int) + 1))) bB = 0 := by unfold wE; rw [f1, f2, f3, f4, f5, f6, w1, w2, z1, w3, z2, if_neg (by simp), if_neg (by simp)]; exact b3
  unfold comes
  rw [hw1, hw2, hw3, d1, d2, e1, e2]
  exact ⟨l9, l3, l4, rfl, rfl, by omega⟩
theorem fin60 {s : Int} (h : 1 ≤ s ∧ s ≤ 60) : ∃ n : Fin 60, s = (n.val : Int) + 1 := ⟨⟨(s - 1).toNat, by omega⟩, by simp only; omega⟩
/-- The four jerks of the law, of a speed from 1 to 60. -/
theorem jerk1 {s lim : Int} (h : 1 ≤ s ∧ s ≤ 60) : jerkS (3 * 18446744073709551616) lim (aB (-2 * s)) bB = if lim < s * 18446744073709551616 then ⟨0, 0, false, true, 0⟩ else ⟨s * 18446744073709551616, 0, true, false, 0⟩ := by
  obtain ⟨n, rfl⟩ := fin60 h
  exact goes_jerk (goes1 n)
theorem jerk2 {s lim : Int} (h : 1 ≤ s ∧ s ≤ 60) : jerkS (3 * 18446744073709551616) lim bB (aB (-2 * s)) = if lim < s * 18446744073709551616 then ⟨0, 0, false, true, 0⟩ else ⟨-(s * 18446744073709551616), 0, true, false, 0⟩ := by
  obtain ⟨n, rfl⟩ := fin60 h
  exact goes_jerk (goes2 n)
theorem jerk3 {s lim : Int} (h : 1 ≤ s ∧ s ≤ 60) : jerkS (5 * 18446744073709551616) lim (aB (-2 * s)) bB = ⟨0, 0, false, false, 0⟩ := by
  obtain ⟨n, rfl⟩ := fin60 h
  exact near_jerk (goes3 n).1 (goes3 n).2.1 (goes3 n).2.2
theorem jerk4 {s lim : Int} (h : 1 ≤ s ∧ s ≤ 60) : jerkS (3 * 18446744073709551616) lim (aB (2 * s)) bB = ⟨0, 0, false, false, 0⟩ := by
  obtain ⟨n, rfl⟩ := fin60 h
  obtain ⟨h1, h2, h3, h4, h5, h6⟩ := goes4 n
  exact come_jerk h1 h2 h3 h4 h5 h6
end Go.Ab

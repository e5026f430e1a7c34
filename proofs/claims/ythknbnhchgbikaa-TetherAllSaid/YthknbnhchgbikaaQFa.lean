/- Words for this claim: an evaluator of the program's functions, and what they come to. -/
import Derived.Test.YthknbnhchgbikaaQDat
import Derived.Test.YthknbnhchgbikaaAb3
set_option linter.all false
namespace Go.Ab
def inW (a : Int) : Prop := 0 ≤ a ∧ a < 18446744073709551616
end Go.Ab

namespace Go.Ab
theorem and_mask (a : Int) : andI (a % 18446744073709551616) 4294967295 = a % 4294967296 := by
  have h0 : 0 ≤ a % 18446744073709551616 := by omega
  have h1 : a % 4294967296 = a % 18446744073709551616 % 4294967296 := by omega
  rw [h1]
  obtain ⟨x, hx⟩ := Int.eq_ofNat_of_zero_le h0
  rw [hx]
  have : (x &&& 4294967295 : Nat) = x % 4294967296 := by
    have := Nat.and_two_pow_sub_one_eq_mod x 32
    simpa using this
  unfold andI
  simp only [Int.toNat_natCast]
  rw [show ((4294967295 : Int).toNat) = 4294967295 from rfl, this]; rfl
theorem prod_bound {a b m : Int} (ha : 0 ≤ a) (ha' : a ≤ m) (hb : 0 ≤ b) (hb' : b ≤ m) : 0 ≤ a * b ∧ a * b ≤ m * m :=
  ⟨Int.mul_nonneg ha hb, Int.mul_le_mul ha' hb' hb (by omega)⟩
theorem mul64_hi {x y : Int} (hx : inW x) (hy : inW y) : (x / 4294967296 * (y / 4294967296) + (x / 4294967296 * (y % 4294967296) + x % 4294967296 * (y % 4294967296) % 18446744073709551616 / 4294967296) % 18446744073709551616 / 4294967296 +
    ((x / 4294967296 * (y % 4294967296) + x % 4294967296 * (y % 4294967296) % 18446744073709551616 / 4294967296) % 4294967296 + x % 4294967296 * (y / 4294967296)) % 18446744073709551616 / 4294967296) % 18446744073709551616 = x * y / 18446744073709551616 := by
  unfold inW at hx hy
  have ex : x = x / 4294967296 * 4294967296 + x % 4294967296 := by omega
  have ey : y = y / 4294967296 * 4294967296 + y % 4294967296 := by omega
  have e : x * y = (x / 4294967296 * (y / 4294967296)) * 18446744073709551616 + (x / 4294967296 * (y % 4294967296) + x % 4294967296 * (y / 4294967296)) * 4294967296 + x % 4294967296 * (y % 4294967296) := by
    conv => lhs; rw [ex, ey]
    simp only [Int.add_mul, Int.mul_add]
    have h1 : x / 4294967296 * 4294967296 * (y / 4294967296 * 4294967296) = x / 4294967296 * (y / 4294967296) * 18446744073709551616 := by
      have : x / 4294967296 * 4294967296 * (y / 4294967296 * 4294967296) = x / 4294967296 * (y / 4294967296) * (4294967296 * 4294967296) := by ac_rfl
      rw [this]; rfl
    have h2 : x / 4294967296 * 4294967296 * (y % 4294967296) = x / 4294967296 * (y % 4294967296) * 4294967296 := by
      rw [Int.mul_right_comm]
    have h3 : x % 4294967296 * (y / 4294967296 * 4294967296) = x % 4294967296 * (y / 4294967296) * 4294967296 := by
      rw [Int.mul_assoc]
    rw [h1, h2, h3]
    omega
  rw [e]
  have b1 := prod_bound (a := x / 4294967296) (b := y / 4294967296) (m := 4294967295) (by omega) (by omega) (by omega) (by omega)
  have b2 := prod_bound (a := x / 4294967296) (b := y % 4294967296) (m := 4294967295) (by omega) (by omega) (by omega) (by omega)
  have b3 := prod_bound (a := x % 4294967296) (b := y / 4294967296) (m := 4294967295) (by omega) (by omega) (by omega) (by omega)
  have b4 := prod_bound (a := x % 4294967296) (b := y % 4294967296) (m := 4294967295) (by omega) (by omega) (by omega) (by omega)
  generalize x / 4294967296 * (y / 4294967296) = p11 at *
  generalize x / 4294967296 * (y % 4294967296) = p10 at *
  generalize x % 4294967296 * (y / 4294967296) = p01 at *
  generalize x % 4294967296 * (y % 4294967296) = p00 at *
  clear e ex ey hx hy
  omega
end Go.Ab

namespace Go.Ab
theorem b2i_no (x : Int) : b2i (decide (18446744073709551616 ≤ x % 18446744073709551616)) = 0 := by
  rw [b2i_dec, if_neg (by omega)]
theorem b2i_or (p : Prop) [Decidable p] : (p ∧ b2i (decide p) = 1) ∨ (¬ p ∧ b2i (decide p) = 0) := by
  by_cases h : p
  · exact .inl ⟨h, by simp [h, b2i]⟩
  · exact .inr ⟨h, by simp [h, b2i]⟩
theorem digits4 (A B C E P : Int) (hA : 0 ≤ A ∧ A < 18446744073709551616) (hB : 0 ≤ B ∧ B < 18446744073709551616) (hC : 0 ≤ C ∧ C < 18446744073709551616) (hE : 0 ≤ E ∧ E < 18446744073709551616) (hP : P = A * 6277101735386680763835789423207666416102355444464034512896 + B * 340282366920938463463374607431768211456 + C * 18446744073709551616 + E) :
    P / 6277101735386680763835789423207666416102355444464034512896 = A ∧ P / 340282366920938463463374607431768211456 % 18446744073709551616 = B ∧ P / 18446744073709551616 % 18446744073709551616 = C ∧ P % 18446744073709551616 = E := by
  subst hP
  refine ⟨by omega, by omega, by omega, by omega⟩
/-- Four products of words, put together. -/
theorem lmul_math (p q r s : Int) (hp : 0 ≤ p ∧ p ≤ 340282366920938463426481119284349108225) (hq : 0 ≤ q ∧ q ≤ 340282366920938463426481119284349108225) (hr : 0 ≤ r ∧ r ≤ 340282366920938463426481119284349108225) (hs : 0 ≤ s ∧ s ≤ 340282366920938463426481119284349108225) (P : Int) (hP : P = p * 340282366920938463463374607431768211456 + (q + r) * 18446744073709551616 + s) (c1 c2 c3 c4 : Int)
    (h1 : (18446744073709551616 ≤ (r + s / 18446744073709551616) % 18446744073709551616 + q % 18446744073709551616 ∧ c1 = 1) ∨ (¬ 18446744073709551616 ≤ (r + s / 18446744073709551616) % 18446744073709551616 + q % 18446744073709551616 ∧ c1 = 0))
    (h2 : (18446744073709551616 ≤ r % 18446744073709551616 + s / 18446744073709551616 % 18446744073709551616 ∧ c2 = 1) ∨ (¬ 18446744073709551616 ≤ r % 18446744073709551616 + s / 18446744073709551616 % 18446744073709551616 ∧ c2 = 0))
    (h3 : (18446744073709551616 ≤ p % 18446744073709551616 + (q / 18446744073709551616 + c1) % 18446744073709551616 ∧ c3 = 1) ∨ (¬ 18446744073709551616 ≤ p % 18446744073709551616 + (q / 18446744073709551616 + c1) % 18446744073709551616 ∧ c3 = 0))
    (h4 : (18446744073709551616 ≤ (r / 18446744073709551616 + c2) % 18446744073709551616 + (p + (q / 18446744073709551616 + c1)) % 18446744073709551616 ∧ c4 = 1) ∨ (¬ 18446744073709551616 ≤ (r / 18446744073709551616 + c2) % 18446744073709551616 + (p + (q / 18446744073709551616 + c1)) % 18446744073709551616 ∧ c4 = 0)) :
    (p / 18446744073709551616 + c3 + c4) % 18446744073709551616 = P / 6277101735386680763835789423207666416102355444464034512896 ∧
    (r / 18446744073709551616 + c2 + (p + (q / 18446744073709551616 + c1))) % 18446744073709551616 = P / 340282366920938463463374607431768211456 % 18446744073709551616 ∧
    (r + s / 18446744073709551616 + q) % 18446744073709551616 = P / 18446744073709551616 % 18446744073709551616 ∧ s % 18446744073709551616 = P % 18446744073709551616 := by
  obtain ⟨p1, p0, ep, hp0, hp1⟩ : ∃ p1 p0 : Int, p = p1 * 18446744073709551616 + p0 ∧ (0 ≤ p0 ∧ p0 < 18446744073709551616) ∧ (0 ≤ p1 ∧ p1 ≤ 18446744073709551614) := ⟨p / 18446744073709551616, p % 18446744073709551616, by omega, by omega, by omega⟩
  obtain ⟨q1, q0, eq, hq0, hq1⟩ : ∃ p1 p0 : Int, q = p1 * 18446744073709551616 + p0 ∧ (0 ≤ p0 ∧ p0 < 18446744073709551616) ∧ (0 ≤ p1 ∧ p1 ≤ 18446744073709551614) := ⟨q / 18446744073709551616, q % 18446744073709551616, by omega, by omega, by omega⟩
  obtain ⟨r1, r0, er, hr0, hr1⟩ : ∃ p1 p0 : Int, r = p1 * 18446744073709551616 + p0 ∧ (0 ≤ p0 ∧ p0 < 18446744073709551616) ∧ (0 ≤ p1 ∧ p1 ≤ 18446744073709551614) := ⟨r / 18446744073709551616, r % 18446744073709551616, by omega, by omega, by omega⟩
  obtain ⟨s1, s0, es, hs0, hs1⟩ : ∃ p1 p0 : Int, s = p1 * 18446744073709551616 + p0 ∧ (0 ≤ p0 ∧ p0 < 18446744073709551616) ∧ (0 ≤ p1 ∧ p1 ≤ 18446744073709551614) := ⟨s / 18446744073709551616, s % 18446744073709551616, by omega, by omega, by omega⟩
  have a1 : p / 18446744073709551616 = p1 := by omega
  have a2 : p % 18446744073709551616 = p0 := by omega
  have b1 : q / 18446744073709551616 = q1 := by omega
  have b2 : q % 18446744073709551616 = q0 := by omega
  have d1 : r / 18446744073709551616 = r1 := by omega
  have d2 : r % 18446744073709551616 = r0 := by omega
  have f1 : s / 18446744073709551616 = s1 := by omega
  have f2 : s % 18446744073709551616 = s0 := by omega
  have f3 : s1 % 18446744073709551616 = s1 := by omega
  rw [d2, f1, f3] at h2
  have k2 : (0 ≤ r0 + s1 - c2 * 18446744073709551616 ∧ r0 + s1 - c2 * 18446744073709551616 < 18446744073709551616) ∧ 0 ≤ c2 ∧ c2 ≤ 1 := by clear h1 h3 h4 hP; omega
  have t2 : (r + s1) % 18446744073709551616 = r0 + s1 - c2 * 18446744073709551616 := by clear h1 h2 h3 h4 hP; omega
  rw [f1, t2, b2] at h1
  have k1 : (0 ≤ r0 + s1 - c2 * 18446744073709551616 + q0 - c1 * 18446744073709551616 ∧ r0 + s1 - c2 * 18446744073709551616 + q0 - c1 * 18446744073709551616 < 18446744073709551616) ∧ 0 ≤ c1 ∧ c1 ≤ 1 := by clear h2 h3 h4 hP; omega
  have t1 : (q1 + c1) % 18446744073709551616 = q1 + c1 := by clear h1 h2 h3 h4 hP; omega
  rw [a2, b1, t1] at h3
  have k3 : (0 ≤ p0 + (q1 + c1) - c3 * 18446744073709551616 ∧ p0 + (q1 + c1) - c3 * 18446744073709551616 < 18446744073709551616) ∧ 0 ≤ c3 ∧ c3 ≤ 1 := by clear h1 h2 h4 hP; omega
  have t3 : (p + (q1 + c1)) % 18446744073709551616 = p0 + (q1 + c1) - c3 * 18446744073709551616 := by clear h1 h2 h3 h4 hP; omega
  have t4 : (r1 + c2) % 18446744073709551616 = r1 + c2 := by clear h1 h2 h3 h4 hP; omega
  rw [d1, t4, b1, t3] at h4
  have k4 : (0 ≤ r1 + c2 + (p0 + (q1 + c1) - c3 * 18446744073709551616) - c4 * 18446744073709551616 ∧ r1 + c2 + (p0 + (q1 + c1) - c3 * 18446744073709551616) - c4 * 18446744073709551616 < 18446744073709551616) ∧ 0 ≤ c4 ∧ c4 ≤ 1 := by clear h1 h2 h3 hP; omega
  have kA : 0 ≤ p1 + c3 + c4 ∧ p1 + c3 + c4 < 18446744073709551616 := by clear h1 h2 h3 h4 hP; omega
  have D := digits4 (p1 + c3 + c4) (r1 + c2 + (p0 + (q1 + c1) - c3 * 18446744073709551616) - c4 * 18446744073709551616) (r0 + s1 - c2 * 18446744073709551616 + q0 - c1 * 18446744073709551616) s0 P kA k4.1 k1.1 hs0 (by rw [hP, ep, eq, er, es]; clear h1 h2 h3 h4; omega)
  rw [D.1, D.2.1, D.2.2.1, D.2.2.2, a1, d1, b1, f1, f2]
  clear D hP h1 h2 h3 h4
  refine ⟨by omega, by omega, by omega, rfl⟩
end Go.Ab

namespace Go.Ab
attribute [local simp] runFn args0 e_skip e_reg regC_some e_seq seqC_n seqC_e seqC_r e_cond condC_t condC_f e_block e_loop e_exit e_ret nextC_n nextC_e nextC_r nextK_n nextK_e nextK_r evReg evOps evOp wants fp St.ev St.get St.set St.sets St.put St.apply St.pre preK inB lk up del hits V.cells V.cellsG allPlain Cell.plain pure1 keysOf okUn noK Ev.apart meets mkV splice fillC binC unC mmC eqCs eqC resVs resV one export1 V.keys V.keys1 outKeys valsKeys cellsKeys Cell.keys Blk.keys elsKeys fpCall fpCallG noTup reach getAll outW newW names srcs capsOf onesOf slB rowsOf V.ren V.ren1 Cell.ren Loc.ren locsRen Blk.ren inR outR place nm St.sweep swept St.kill killR lmap delAll St.trim reachL expR ownGet b2i_le wrap_u64 wrap_i64 bits_u64 bits_i64 or_u64 and_u64 Int.fdiv_eq_ediv_of_nonneg word mmC hits
theorem ev_mul64 (D : Nat) (x y : Int) (hx : inW x) (hy : inW y) : evFun T (D+1) 163 [.c (.int .u64 x), .c (.int .u64 y)] [] = some (.tup [.c (.int .u64 (x * y / 18446744073709551616)), .c (.int .u64 (x * y % 18446744073709551616))], [], []) := by
  rw [ev_fn T163]; simp (maxSteps := 2000000) [ir163]
  simp only [and_mask]
  exact mul64_hi hx hy
end Go.Ab

namespace Go.Ab
attribute [local simp] runFn args0 e_skip e_reg regC_some e_seq seqC_n seqC_e seqC_r e_cond condC_t condC_f e_block e_loop e_exit e_ret nextC_n nextC_e nextC_r nextK_n nextK_e nextK_r evReg evOps evOp wants fp St.ev St.get St.set St.sets St.put St.apply St.pre preK inB lk up del hits V.cells V.cellsG allPlain Cell.plain pure1 keysOf okUn noK Ev.apart meets mkV splice fillC binC unC mmC eqCs eqC resVs resV one export1 V.keys V.keys1 outKeys valsKeys cellsKeys Cell.keys Blk.keys elsKeys fpCall fpCallG noTup reach getAll outW newW names srcs capsOf onesOf slB rowsOf V.ren V.ren1 Cell.ren Loc.ren locsRen Blk.ren inR outR place nm St.sweep swept St.kill killR lmap delAll St.trim reachL expR ownGet b2i_le wrap_u64 wrap_i64 bits_u64 bits_i64 or_u64 and_u64 Int.fdiv_eq_ediv_of_nonneg word mmC hits
theorem ev_four' (D : Nat) (a b c d : Int) : evFun T (D+1) 162 [.agg [.int .u64 a, .int .u64 b, .int .u64 c, .int .u64 d]] [] = some (.agg [.int .u64 d, .int .u64 c, .int .u64 b, .int .u64 a], [], []) := by
  rw [ev_fn T162]; simp (maxSteps := 2000000) [ir162]
def fourV (a : Int) : V := .agg [.int .u64 (a / 6277101735386680763835789423207666416102355444464034512896), .int .u64 (a / 340282366920938463463374607431768211456 % 18446744073709551616), .int .u64 (a / 18446744073709551616 % 18446744073709551616), .int .u64 (a % 18446744073709551616)]
theorem ev_lmul (D : Nat) (a b c d P : Int) (ha : inW a) (hb : inW b) (hc : inW c) (hd : inW d) (hP : P = (a * 18446744073709551616 + b) * (c * 18446744073709551616 + d)) : evFun T (D+2) 120 [.agg [.int .u64 a, .int .u64 b], .agg [.int .u64 c, .int .u64 d]] [] = some (fourV P, [], []) := by
  unfold fourV
  rw [ev_fn T120]; simp (maxSteps := 2000000) [ir120, ir120_l0, ir120_t0, ir120_x0, ir120_l1, ir120_t1, ir120_x1, loopC_step, ev_mul64, ev_four', ha, hb, hc, hd]
  simp only [b2i_no, Int.add_zero]
  unfold inW at ha hb hc hd
  have e : P = a * c * 340282366920938463463374607431768211456 + (a * d + b * c) * 18446744073709551616 + b * d := by
    rw [hP]
    simp only [Int.add_mul, Int.mul_add]
    have h1 : a * 18446744073709551616 * (c * 18446744073709551616) = a * c * (18446744073709551616 * 18446744073709551616) := by ac_rfl
    have h2 : a * 18446744073709551616 * d = a * d * 18446744073709551616 := by ac_rfl
    have h3 : b * (c * 18446744073709551616) = b * c * 18446744073709551616 := by ac_rfl
    rw [h1, h2, h3]; omega
  exact lmul_math (a * c) (a * d) (b * c) (b * d) (prod_bound (m := 18446744073709551615) (by omega) (by omega) (by omega) (by omega)) (prod_bound (m := 18446744073709551615) (by omega) (by omega) (by omega) (by omega)) (prod_bound (m := 18446744073709551615) (by omega) (by omega) (by omega) (by omega)) (prod_bound (m := 18446744073709551615) (by omega) (by omega) (by omega) (by omega)) P e _ _ _ _ (b2i_or _) (b2i_or _) (b2i_or _) (b2i_or _)
end Go.Ab

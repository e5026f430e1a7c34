/- Words for this claim: an evaluator of the program's functions, and what they come to. -/
import Derived.Test.YthknbnhchgbikaaQFh
set_option linter.all false
namespace Go.Ab
attribute [local simp] runFn args0 e_skip e_reg regC_some e_seq seqC_n seqC_e seqC_r e_cond condC_t condC_f e_block e_loop e_exit e_ret nextC_n nextC_e nextC_r nextK_n nextK_e nextK_r evReg evOps evOp wants fp St.ev St.get St.set St.sets St.put St.apply St.pre preK inB lk up del hits V.cells V.cellsG allPlain Cell.plain pure1 keysOf okUn noK Ev.apart meets mkV splice fillC binC unC mmC eqCs eqC resVs resV one export1 V.keys V.keys1 outKeys valsKeys cellsKeys Cell.keys Blk.keys elsKeys fpCall fpCallG noTup reach getAll outW newW names srcs capsOf onesOf slB rowsOf V.ren V.ren1 Cell.ren Loc.ren locsRen Blk.ren inR outR place nm St.sweep swept St.kill killR lmap delAll St.trim reachL expR ownGet b2i_le wrap_u64 wrap_i64 bits_u64 bits_i64 or_u64 and_u64 Int.fdiv_eq_ediv_of_nonneg word mmC hits
theorem R_less (D : Nat) {h1 l1 h2 l2 : Int} (a : inW h1) (b : inW l1) (c : inW h2) (d : inW l2) : evFun T (D+1) 54 [.agg [.int .u64 h1, .int .u64 l1], .agg [.int .u64 h2, .int .u64 l2]] [] = some (.c (.bool (decide (fv h1 l1 < fv h2 l2))), [], []) := by
  unfold inW at *
  by_cases q1 : h1 < h2
  · have e1 : decide (h1 < h2) = true := by simpa using q1
    have e : decide (fv h1 l1 < fv h2 l2) = true := by unfold fv; simp; omega
    rw [e]
    rw [ev_fn T54]; simp (maxSteps := 2000000) [ir54, e1]
  · have e1 : decide (h1 < h2) = false := by simpa using q1
    by_cases q2 : h1 = h2
    · subst q2
      have e : decide (fv h1 l1 < fv h1 l2) = decide (l1 < l2) := by unfold fv; congr 1; simp
      rw [e]
      rw [ev_fn T54]; simp (maxSteps := 2000000) [ir54, e1]
    · have e2 : (h1 == h2) = false := by simpa using q2
      have e : decide (fv h1 l1 < fv h2 l2) = false := by unfold fv; simp; omega
      rw [e]
      rw [ev_fn T54]; simp (maxSteps := 2000000) [ir54, e1, e2]
theorem R_sub2 (D : Nat) {h1 l1 h2 l2 : Int} (a : inW h1) (b : inW l1) (c : inW h2) (d : inW l2) : evFun T (D+2) 72 [.agg [.int .u64 h1, .int .u64 l1], .agg [.int .u64 h2, .int .u64 l2]] [] =
    some (.agg [.int .u64 ((fv h1 l1 - fv h2 l2) % 340282366920938463463374607431768211456 / 18446744073709551616), .int .u64 ((fv h1 l1 - fv h2 l2) % 340282366920938463463374607431768211456 % 18446744073709551616), .bool (decide (fv h1 l1 < fv h2 l2))], [], []) := by
  have hl := R_less D a b c d
  generalize hb : decide (fv h1 l1 < fv h2 l2) = t at *
  clear hb
  unfold inW at *
  by_cases q : l1 < l2
  · have e : decide (l1 < l2) = true := by simpa using q
    rw [ev_fn T72]; simp (maxSteps := 2000000) [ir72, hl, e]
    unfold fv; omega
  · have e : decide (l1 < l2) = false := by simpa using q
    rw [ev_fn T72]; simp (maxSteps := 2000000) [ir72, hl, e]
    unfold fv; omega
theorem R_add2 (D : Nat) {h1 l1 h2 l2 : Int} (a : inW h1) (b : inW l1) (c : inW h2) (d : inW l2) : evFun T (D+1) 129 [.agg [.int .u64 h1, .int .u64 l1], .agg [.int .u64 h2, .int .u64 l2]] [] =
    some (.agg [.int .u64 ((fv h1 l1 + fv h2 l2) % 340282366920938463463374607431768211456 / 18446744073709551616), .int .u64 ((fv h1 l1 + fv h2 l2) % 340282366920938463463374607431768211456 % 18446744073709551616), .bool (decide (340282366920938463463374607431768211456 ≤ fv h1 l1 + fv h2 l2))], [], []) := by
  unfold inW at *
  have r1 : (fv h1 l1 + fv h2 l2) % 340282366920938463463374607431768211456 % 18446744073709551616 = (l1 + l2) % 18446744073709551616 := by unfold fv; omega
  by_cases q : (l1 + l2) % 18446744073709551616 < l1
  · have e : decide ((l1 + l2) % 18446744073709551616 < l1) = true := by simpa using q
    have r2 : (fv h1 l1 + fv h2 l2) % 340282366920938463463374607431768211456 / 18446744073709551616 = (h1 + h2 + 1) % 18446744073709551616 := by unfold fv; omega
    have r3 : decide (340282366920938463463374607431768211456 ≤ fv h1 l1 + fv h2 l2) = decide (18446744073709551616 ≤ h1 + h2 + 1) := by unfold fv; congr 1; simp; omega
    rw [r1, r2, r3]
    by_cases q2 : (h1 + h2) % 18446744073709551616 < h1
    · have e2 : decide ((h1 + h2) % 18446744073709551616 < h1) = true := by simpa using q2
      have e3 : decide (18446744073709551616 ≤ h1 + h2 + 1) = true := by simp; omega
      rw [ev_fn T129]; simp (maxSteps := 2000000) [ir129, e, e2, e3]
    · have e2 : decide ((h1 + h2) % 18446744073709551616 < h1) = false := by simpa using q2
      by_cases q3 : (h1 + h2 + 1) % 18446744073709551616 = 0
      · have e3 : decide (18446744073709551616 ≤ h1 + h2 + 1) = true := by simp; omega
        have e4 : ((h1 + h2 + 1) % 18446744073709551616 == 0) = true := by simpa using q3
        rw [ev_fn T129]; simp (maxSteps := 2000000) [ir129, e, e2, e3, e4, q3]
      · have e3 : decide (18446744073709551616 ≤ h1 + h2 + 1) = false := by simp; omega
        have e4 : ((h1 + h2 + 1) % 18446744073709551616 == 0) = false := by simpa using q3
        rw [ev_fn T129]; simp (maxSteps := 2000000) [ir129, e, e2, e3, e4]
  · have e : decide ((l1 + l2) % 18446744073709551616 < l1) = false := by simpa using q
    have r2 : (fv h1 l1 + fv h2 l2) % 340282366920938463463374607431768211456 / 18446744073709551616 = (h1 + h2) % 18446744073709551616 := by unfold fv; omega
    have r3 : decide (340282366920938463463374607431768211456 ≤ fv h1 l1 + fv h2 l2) = decide ((h1 + h2) % 18446744073709551616 < h1) := by unfold fv; congr 1; simp; omega
    rw [r1, r2, r3]
    by_cases q2 : (h1 + h2) % 18446744073709551616 < h1
    · have e2 : decide ((h1 + h2) % 18446744073709551616 < h1) = true := by simpa using q2
      rw [ev_fn T129]; simp (maxSteps := 2000000) [ir129, e, e2]
    · have e2 : decide ((h1 + h2) % 18446744073709551616 < h1) = false := by simpa using q2
      rw [ev_fn T129]; simp (maxSteps := 2000000) [ir129, e, e2]
theorem R_neg (D : Nat) {h l : Int} (k : okM h l) : evFun T (D+3) 32 [.agg [.int .i64 h, .int .u64 l]] [] = some (.agg [.int .i64 ((-fv h l) / 18446744073709551616), .int .u64 ((-fv h l) % 18446744073709551616)], [], []) := by
  have b := okM_fv k
  unfold okM at k
  have hs := R_sub2 D (h1 := 0) (l1 := 0) (h2 := h % 18446744073709551616) (l2 := l) (by unfold inW; omega) (by unfold inW; omega) (by unfold inW; omega) (by unfold inW; omega)
  generalize hX : (fv 0 0 - fv (h % 18446744073709551616) l) % 340282366920938463463374607431768211456 = X at *
  have e1 : (X / 18446744073709551616 + 9223372036854775808) % 18446744073709551616 - 9223372036854775808 = (-fv h l) / 18446744073709551616 := by unfold fv at *; omega
  have e2 : X % 18446744073709551616 = (-fv h l) % 18446744073709551616 := by unfold fv at *; omega
  clear hX b k
  rw [← e1, ← e2]
  rw [ev_fn T32]; simp (maxSteps := 2000000) [ir32, hs]
theorem R_mag (D : Nat) {h l : Int} (k : okM h l) : evFun T (D+4) 55 [.agg [.int .i64 h, .int .u64 l]] [] = some (.agg [.int .u64 (absI (fv h l) / 18446744073709551616), .int .u64 (absI (fv h l) % 18446744073709551616)], [], []) := by
  have b := okM_fv k
  have hn := R_neg D k
  unfold okM at k
  by_cases q : h < 0
  · have e : decide (h < 0) = true := by simpa using q
    have e0 : absI (fv h l) = -fv h l := by unfold absI; rw [if_pos (by unfold fv; omega)]
    rw [e0]
    generalize hX : -fv h l = X at *
    have e1 : X / 18446744073709551616 % 18446744073709551616 = X / 18446744073709551616 := by unfold fv at *; omega
    clear hX b k
    rw [ev_fn T55]; simp (maxSteps := 2000000) [ir55, hn, e, e1]
  · have e : decide (h < 0) = false := by simpa using q
    have e0 : absI (fv h l) = fv h l := by unfold absI; rw [if_neg (by unfold fv; omega)]
    have e1 : h % 18446744073709551616 = h := by omega
    rw [e0, show fv h l / 18446744073709551616 = h by unfold fv; omega, show fv h l % 18446744073709551616 = l by unfold fv; omega]
    rw [ev_fn T55]; simp (maxSteps := 2000000) [ir55, e, e1]
theorem R_signed (D : Nat) (t : Bool) (M : Int) (h0 : 0 ≤ M) (h1 : M < 115792089237316195423570985008687907853269984665640564039457584007913129639936) : evFun T (D+4) 128 [.c (.bool t), fourV M] [] =
    some (.agg [.int .i64 (fitN (signI t M) / 18446744073709551616), .int .u64 (fitN (signI t M) % 18446744073709551616), .int .i64 (fitE (signI t M))], [], []) := by
  unfold fourV
  by_cases q : M < 170141183460469231731687303715884105728
  · have f : fitE (signI t M) = 0 := (signI_fit h0).2 q
    rw [fitN_of f, f]
    have z1 : M / 6277101735386680763835789423207666416102355444464034512896 = 0 := by omega
    have z2 : M / 340282366920938463463374607431768211456 % 18446744073709551616 = 0 := by omega
    have z3 : decide (9223372036854775808 ≤ M / 18446744073709551616 % 18446744073709551616) = false := by simp; omega
    have z4 : (M / 18446744073709551616 % 18446744073709551616 + 9223372036854775808) % 18446744073709551616 - 9223372036854775808 = M / 18446744073709551616 := by omega
    have z5 : (M / 18446744073709551616 + 9223372036854775808) % 18446744073709551616 - 9223372036854775808 = M / 18446744073709551616 := by omega
    have k : okM (M / 18446744073709551616) (M % 18446744073709551616) := okM_of (by omega)
    have hn := R_neg D k
    rw [fv_dm] at hn
    cases t with
    | false => rw [ev_fn T128]; simp (maxSteps := 2000000) [ir128, z1, z2, z3, z4, z5, signI]
    | true => rw [ev_fn T128]; simp (maxSteps := 2000000) [ir128, z1, z2, z3, z4, z5, signI, hn]
  · have f : fitE (signI t M) ≠ 0 := by rw [Ne, signI_fit h0]; exact q
    rw [(fitN_err f).1, (fitN_err f).2]
    by_cases q2 : (M / 6277101735386680763835789423207666416102355444464034512896 == 0 && M / 340282366920938463463374607431768211456 % 18446744073709551616 == 0) = true
    · have z3 : decide (9223372036854775808 ≤ M / 18446744073709551616 % 18446744073709551616) = true := by
        simp only [Bool.and_eq_true, beq_iff_eq] at q2; simp; omega
      rw [ev_fn T128]; simp (maxSteps := 2000000) [ir128, q2, z3, -Bool.and_eq_true]
    · have q3 : (M / 6277101735386680763835789423207666416102355444464034512896 == 0 && M / 340282366920938463463374607431768211456 % 18446744073709551616 == 0) = false := by simpa using q2
      rw [ev_fn T128]; simp (maxSteps := 2000000) [ir128, q3, -Bool.and_eq_false_imp]
theorem wide_four (x : Int) (h : 0 ≤ x ∧ x < 340282366920938463463374607431768211456) : fourV x = .agg [.int .u64 0, .int .u64 0, .int .u64 (x / 18446744073709551616), .int .u64 (x % 18446744073709551616)] := by
  unfold fourV
  rw [show x / 6277101735386680763835789423207666416102355444464034512896 = 0 by omega, show x / 340282366920938463463374607431768211456 % 18446744073709551616 = 0 by omega, show x / 18446744073709551616 % 18446744073709551616 = x / 18446744073709551616 by omega]
theorem R_add (D : Nat) {h1 l1 h2 l2 : Int} (k1 : okM h1 l1) (k2 : okM h2 l2) : evFun T (D+5) 71 [.agg [.int .i64 h1, .int .u64 l1], .agg [.int .i64 h2, .int .u64 l2]] [] =
    some (.agg [.int .i64 (fitN (fv h1 l1 + fv h2 l2) / 18446744073709551616), .int .u64 (fitN (fv h1 l1 + fv h2 l2) % 18446744073709551616), .int .i64 (fitE (fv h1 l1 + fv h2 l2))], [], []) := by
  have m1 := R_mag D k1
  have m2 := R_mag D k2
  have b1 := okM_fv k1
  have b2 := okM_fv k2
  have s1 : decide (h1 < 0) = decide (fv h1 l1 < 0) := by unfold okM at k1; unfold fv; congr 1; simp; omega
  have s2 : decide (h2 < 0) = decide (fv h2 l2 < 0) := by unfold okM at k2; unfold fv; congr 1; simp; omega
  have a1 := absI_lt b1
  have a2 := absI_lt b2
  have n1 := absI_nonneg (fv h1 l1)
  have n2 := absI_nonneg (fv h2 l2)
  have w1 := inW_of_lt n1 (by omega)
  have w2 := inW_of_lt n2 (by omega)
  have ad := R_add2 (D+3) w1.1 w1.2 w2.1 w2.2
  have sb := R_sub2 (D+2) w1.1 w1.2 w2.1 w2.2
  have sb' := R_sub2 (D+2) w2.1 w2.2 w1.1 w1.2
  have ls := R_less (D+3) w1.1 w1.2 w2.1 w2.2
  rw [fv_dm, fv_dm] at ad sb sb' ls
  rw [show (absI (fv h1 l1) + absI (fv h2 l2)) % 340282366920938463463374607431768211456 = absI (fv h1 l1) + absI (fv h2 l2) by omega] at ad
  have sg := R_signed D (decide (fv h1 l1 < 0)) (absI (fv h1 l1) + absI (fv h2 l2)) (by omega) (by omega)
  rw [wide_four _ (by omega)] at sg
  by_cases q : decide (fv h1 l1 < 0) = decide (fv h2 l2 < 0)
  · have e : signI (decide (fv h1 l1 < 0)) (absI (fv h1 l1) + absI (fv h2 l2)) = fv h1 l1 + fv h2 l2 := by
      unfold signI absI
      by_cases p : fv h1 l1 < 0 <;> by_cases r : fv h2 l2 < 0 <;> simp [p, r] at q ⊢
      omega
    rw [e] at sg
    have qq : (decide (fv h1 l1 < 0) == decide (fv h2 l2 < 0)) = true := by simpa using q
    generalize fv h1 l1 + fv h2 l2 = S at *
    generalize absI (fv h1 l1) = A at *
    generalize absI (fv h2 l2) = B at *
    clear e b1 b2 a1 a2 n1 n2 w1 w2 sb sb' ls q
    rw [← s1, ← s2] at qq
    rw [← s1] at sg
    rw [ev_fn T71]; simp (maxSteps := 2000000) [ir71, m1, m2, ad, sg, qq]
  · have qq : (decide (fv h1 l1 < 0) == decide (fv h2 l2 < 0)) = false := by simpa using q
    by_cases c : absI (fv h1 l1) < absI (fv h2 l2)
    · have e : signI (decide (fv h2 l2 < 0)) (absI (fv h2 l2) - absI (fv h1 l1)) = fv h1 l1 + fv h2 l2 := by
        unfold signI absI
        by_cases p : fv h1 l1 < 0 <;> by_cases r : fv h2 l2 < 0 <;> simp [p, r] at q ⊢ <;> omega
      have sg := R_signed D (decide (fv h2 l2 < 0)) (absI (fv h2 l2) - absI (fv h1 l1)) (by omega) (by omega)
      rw [wide_four _ (by omega), e] at sg
      rw [show (absI (fv h2 l2) - absI (fv h1 l1)) % 340282366920938463463374607431768211456 = absI (fv h2 l2) - absI (fv h1 l1) by omega] at sb'
      have cc : decide (absI (fv h1 l1) < absI (fv h2 l2)) = true := by simpa using c
      rw [cc] at ls
      generalize fv h1 l1 + fv h2 l2 = S at *
      generalize absI (fv h1 l1) = A at *
      generalize absI (fv h2 l2) = B at *
      clear e b1 b2 a1 a2 n1 n2 w1 w2 sb ad q c cc
      rw [← s1, ← s2] at qq
      rw [← s2] at sg
      rw [ev_fn T71]; simp (maxSteps := 2000000) [ir71, m1, m2, sb', ls, sg, qq]
    · have e : signI (decide (fv h1 l1 < 0)) (absI (fv h1 l1) - absI (fv h2 l2)) = fv h1 l1 + fv h2 l2 := by
        unfold signI absI
        by_cases p : fv h1 l1 < 0 <;> by_cases r : fv h2 l2 < 0 <;> simp [p, r] at q ⊢ <;> omega
      have sg := R_signed D (decide (fv h1 l1 < 0)) (absI (fv h1 l1) - absI (fv h2 l2)) (by omega) (by omega)
      rw [wide_four _ (by omega), e] at sg
      rw [show (absI (fv h1 l1) - absI (fv h2 l2)) % 340282366920938463463374607431768211456 = absI (fv h1 l1) - absI (fv h2 l2) by omega] at sb
      have cc : decide (absI (fv h1 l1) < absI (fv h2 l2)) = false := by simpa using c
      rw [cc] at ls
      generalize fv h1 l1 + fv h2 l2 = S at *
      generalize absI (fv h1 l1) = A at *
      generalize absI (fv h2 l2) = B at *
      clear e b1 b2 a1 a2 n1 n2 w1 w2 sb' ad q c cc
      rw [← s1, ← s2] at qq
      rw [← s1] at sg
      rw [ev_fn T71]; simp (maxSteps := 2000000) [ir71, m1, m2, sb, ls, sg, qq]
end Go.Ab

namespace Go.Ab
attribute [local simp] runFn args0 e_skip e_reg regC_some e_seq seqC_n seqC_e seqC_r e_cond condC_t condC_f e_block e_loop e_exit e_ret nextC_n nextC_e nextC_r nextK_n nextK_e nextK_r evReg evOps evOp wants fp St.ev St.get St.set St.sets St.put St.apply St.pre preK inB lk up del hits V.cells V.cellsG allPlain Cell.plain pure1 keysOf okUn noK Ev.apart meets mkV splice fillC binC unC mmC eqCs eqC resVs resV one export1 V.keys V.keys1 outKeys valsKeys cellsKeys Cell.keys Blk.keys elsKeys fpCall fpCallG noTup reach getAll outW newW names srcs capsOf onesOf slB rowsOf V.ren V.ren1 Cell.ren Loc.ren locsRen Blk.ren inR outR place nm St.sweep swept St.kill killR lmap delAll St.trim reachL expR ownGet b2i_le wrap_u64 wrap_i64 bits_u64 bits_i64 or_u64 and_u64 Int.fdiv_eq_ediv_of_nonneg word mmC hits
theorem prod_split (x y : Int) : x * y = (x / 4294967296 * (y / 4294967296)) * 18446744073709551616 + (x / 4294967296 * (y % 4294967296) + x % 4294967296 * (y / 4294967296)) * 4294967296 + x % 4294967296 * (y % 4294967296) := by
  have ex : x = x / 4294967296 * 4294967296 + x % 4294967296 := by omega
  have ey : y = y / 4294967296 * 4294967296 + y % 4294967296 := by omega
  conv => lhs; rw [ex, ey]
  simp only [Int.add_mul, Int.mul_add]
  have h1 : x / 4294967296 * 4294967296 * (y / 4294967296 * 4294967296) = x / 4294967296 * (y / 4294967296) * 18446744073709551616 := by
    have : x / 4294967296 * 4294967296 * (y / 4294967296 * 4294967296) = x / 4294967296 * (y / 4294967296) * (4294967296 * 4294967296) := by ac_rfl
    rw [this]; rfl
  have h2 : x / 4294967296 * 4294967296 * (y % 4294967296) = x / 4294967296 * (y % 4294967296) * 4294967296 := by rw [Int.mul_right_comm]
  have h3 : x % 4294967296 * (y / 4294967296 * 4294967296) = x % 4294967296 * (y / 4294967296) * 4294967296 := by rw [Int.mul_assoc]
  rw [h1, h2, h3]
  omega
theorem R_product (D : Nat) (x y : Int) (hx : inW x) (hy : inW y) : evFun T (D+1) 166 [.c (.int .u64 x), .c (.int .u64 y)] [] = some (.agg [.int .u64 (x * y / 18446744073709551616), .int .u64 (x * y % 18446744073709551616)], [], []) := by
  unfold inW at hx hy
  have b1 := prod_bound (a := x / 4294967296) (b := y / 4294967296) (m := 4294967295) (by omega) (by omega) (by omega) (by omega)
  have b2 := prod_bound (a := x / 4294967296) (b := y % 4294967296) (m := 4294967295) (by omega) (by omega) (by omega) (by omega)
  have b3 := prod_bound (a := x % 4294967296) (b := y / 4294967296) (m := 4294967295) (by omega) (by omega) (by omega) (by omega)
  have b4 := prod_bound (a := x % 4294967296) (b := y % 4294967296) (m := 4294967295) (by omega) (by omega) (by omega) (by omega)
  have e := prod_split x y
  rw [ev_fn T166]; simp (maxSteps := 2000000) [ir166]
  simp only [and_mask]
  rw [e]
  generalize x / 4294967296 * (y / 4294967296) = p at *
  generalize x / 4294967296 * (y % 4294967296) = q at *
  generalize x % 4294967296 * (y / 4294967296) = r at *
  generalize x % 4294967296 * (y % 4294967296) = s at *
  clear e
  refine ⟨by omega, ?_⟩
  rw [orI_add _ _ 32 (by omega) (by omega) (by omega) (by omega)]
  omega
theorem R_plusF (D : Nat) (A B : Int) (hA : 0 ≤ A ∧ A < 115792089237316195423570985008687907853269984665640564039457584007913129639936) (hB : 0 ≤ B ∧ B < 340282366920938463463374607431768211456) :
    evFun T (D+2) 167 [fourV A, .agg [.int .u64 (B / 18446744073709551616), .int .u64 (B % 18446744073709551616)], .c (.bool false)] [] = some (fourV ((A + B * 340282366920938463463374607431768211456) % 115792089237316195423570985008687907853269984665640564039457584007913129639936), [], []) := by
  have w := inW_of_lt hB.1 hB.2
  have h1 := R_add2 D (h1 := A / 6277101735386680763835789423207666416102355444464034512896) (l1 := A / 340282366920938463463374607431768211456 % 18446744073709551616) (by unfold inW; omega) (by unfold inW; omega) w.1 w.2
  rw [fv_dm] at h1
  have e1 : (fv (A / 6277101735386680763835789423207666416102355444464034512896) (A / 340282366920938463463374607431768211456 % 18446744073709551616) + B) % 340282366920938463463374607431768211456 = (A / 340282366920938463463374607431768211456 + B) % 340282366920938463463374607431768211456 := by unfold fv; omega
  rw [e1] at h1
  unfold fourV
  rw [ev_fn T167]; simp (maxSteps := 2000000) [ir167, h1]
  omega
theorem R_plusT (D : Nat) (A B : Int) (hA : 0 ≤ A ∧ A < 115792089237316195423570985008687907853269984665640564039457584007913129639936) (hB : 0 ≤ B ∧ B < 340282366920938463463374607431768211456) :
    evFun T (D+2) 167 [fourV A, .agg [.int .u64 (B / 18446744073709551616), .int .u64 (B % 18446744073709551616)], .c (.bool true)] [] = some (fourV ((A + B * 18446744073709551616) % 115792089237316195423570985008687907853269984665640564039457584007913129639936), [], []) := by
  have w := inW_of_lt hB.1 hB.2
  have h1 := R_add2 D (h1 := A / 18446744073709551616 % 18446744073709551616) (l1 := A % 18446744073709551616) (h2 := B % 18446744073709551616) (l2 := 0) (by unfold inW; omega) (by unfold inW; omega) w.2 (by unfold inW; omega)
  have e1 : fv (A / 18446744073709551616 % 18446744073709551616) (A % 18446744073709551616) + fv (B % 18446744073709551616) 0 = A % 340282366920938463463374607431768211456 + B % 18446744073709551616 * 18446744073709551616 := by unfold fv; omega
  rw [e1] at h1
  have h2 := R_add2 D (h1 := 0) (l1 := B / 18446744073709551616) (h2 := 0) (l2 := 1) (by unfold inW; omega) w.1 (by unfold inW; omega) (by unfold inW; omega)
  have e2 : (fv 0 (B / 18446744073709551616) + fv 0 1) % 340282366920938463463374607431768211456 = B / 18446744073709551616 + 1 := by unfold fv; unfold inW at w; omega
  rw [e2] at h2
  have h3 := R_add2 D (h1 := A / 6277101735386680763835789423207666416102355444464034512896) (l1 := A / 340282366920938463463374607431768211456 % 18446744073709551616) (h2 := 0) (l2 := B / 18446744073709551616) (by unfold inW; omega) (by unfold inW; omega) (by unfold inW; omega) w.1
  have h4 := R_add2 D (h1 := A / 6277101735386680763835789423207666416102355444464034512896) (l1 := A / 340282366920938463463374607431768211456 % 18446744073709551616) (h2 := (B / 18446744073709551616 + 1) / 18446744073709551616) (l2 := (B / 18446744073709551616 + 1) % 18446744073709551616) (by unfold inW; omega) (by unfold inW; omega) (by unfold inW; omega) (by unfold inW; omega)
  have e3 : fv (A / 6277101735386680763835789423207666416102355444464034512896) (A / 340282366920938463463374607431768211456 % 18446744073709551616) + fv 0 (B / 18446744073709551616) = A / 340282366920938463463374607431768211456 + B / 18446744073709551616 := by unfold fv; omega
  have e4 : fv (A / 6277101735386680763835789423207666416102355444464034512896) (A / 340282366920938463463374607431768211456 % 18446744073709551616) + fv ((B / 18446744073709551616 + 1) / 18446744073709551616) ((B / 18446744073709551616 + 1) % 18446744073709551616) = A / 340282366920938463463374607431768211456 + B / 18446744073709551616 + 1 := by unfold fv; omega
  rw [e3] at h3
  rw [e4] at h4
  clear e1 e2 e3 e4 w
  unfold fourV
  by_cases c : 340282366920938463463374607431768211456 ≤ A % 340282366920938463463374607431768211456 + B % 18446744073709551616 * 18446744073709551616
  · have cc : decide (340282366920938463463374607431768211456 ≤ A % 340282366920938463463374607431768211456 + B % 18446744073709551616 * 18446744073709551616) = true := by simpa using c
    rw [cc] at h1
    rw [ev_fn T167]; simp (maxSteps := 2000000) [ir167, h1, h2, h4]
    omega
  · have cc : decide (340282366920938463463374607431768211456 ≤ A % 340282366920938463463374607431768211456 + B % 18446744073709551616 * 18446744073709551616) = false := by simpa using c
    rw [cc] at h1
    rw [ev_fn T167]; simp (maxSteps := 2000000) [ir167, h1, h3]
    omega
theorem mul_words (a b c d : Int) (hp0 : 0 ≤ a * c) (hp1 : a * c ≤ 340282366920938463426481119284349108225) (hq0 : 0 ≤ a * d) (hq1 : a * d ≤ 340282366920938463426481119284349108225) (hr0 : 0 ≤ b * c) (hr1 : b * c ≤ 340282366920938463426481119284349108225) (hs0 : 0 ≤ b * d) (hs1 : b * d ≤ 340282366920938463426481119284349108225) :
    (((b * d + a * c * 340282366920938463463374607431768211456) % 115792089237316195423570985008687907853269984665640564039457584007913129639936 + a * d * 18446744073709551616) % 115792089237316195423570985008687907853269984665640564039457584007913129639936 + b * c * 18446744073709551616) % 115792089237316195423570985008687907853269984665640564039457584007913129639936 = (a * 18446744073709551616 + b) * (c * 18446744073709551616 + d) := by
  have e : (a * 18446744073709551616 + b) * (c * 18446744073709551616 + d) = a * c * 340282366920938463463374607431768211456 + (a * d + b * c) * 18446744073709551616 + b * d := by
    simp only [Int.add_mul, Int.mul_add]
    have h1 : a * 18446744073709551616 * (c * 18446744073709551616) = a * c * (18446744073709551616 * 18446744073709551616) := by ac_rfl
    have h2 : a * 18446744073709551616 * d = a * d * 18446744073709551616 := by ac_rfl
    have h3 : b * (c * 18446744073709551616) = b * c * 18446744073709551616 := by ac_rfl
    rw [h1, h2, h3]; omega
  rw [e]
  generalize a * c = p at *
  generalize a * d = q at *
  generalize b * c = r at *
  generalize b * d = s at *
  omega
theorem R_mul2 (D : Nat) (a b c d : Int) (ha : inW a) (hb : inW b) (hc : inW c) (hd : inW d) : evFun T (D+3) 131 [.agg [.int .u64 a, .int .u64 b], .agg [.int .u64 c, .int .u64 d]] [] = some (fourV (fv a b * fv c d), [], []) := by
  have bd := fun (x y : Int) (hx : inW x) (hy : inW y) => prod_bound (a := x) (b := y) (m := 18446744073709551615) hx.1 (by unfold inW at hx; omega) hy.1 (by unfold inW at hy; omega)
  have p1 := R_product (D+1) b d hb hd
  have p2 := R_product (D+1) a c ha hc
  have p3 := R_product (D+1) a d ha hd
  have p4 := R_product (D+1) b c hb hc
  have q1 := bd b d hb hd
  have q2 := bd a c ha hc
  have q3 := bd a d ha hd
  have q4 := bd b c hb hc
  have m := mul_words a b c d q2.1 (by omega) q3.1 (by omega) q4.1 (by omega) q1.1 (by omega)
  have f0 := wide_four (b * d) (by omega)
  have f1 := R_plusF D (b * d) (a * c) (by omega) (by omega)
  have f2 := R_plusT D ((b * d + a * c * 340282366920938463463374607431768211456) % 115792089237316195423570985008687907853269984665640564039457584007913129639936) (a * d) (by omega) (by omega)
  have f3 := R_plusT D (((b * d + a * c * 340282366920938463463374607431768211456) % 115792089237316195423570985008687907853269984665640564039457584007913129639936 + a * d * 18446744073709551616) % 115792089237316195423570985008687907853269984665640564039457584007913129639936) (b * c) (by omega) (by omega)
  rw [m] at f3
  rw [f0] at f1
  rw [show fv a b * fv c d = (a * 18446744073709551616 + b) * (c * 18446744073709551616 + d) from rfl]
  generalize (a * 18446744073709551616 + b) * (c * 18446744073709551616 + d) = P at *
  generalize (b * d + a * c * 340282366920938463463374607431768211456) % 115792089237316195423570985008687907853269984665640564039457584007913129639936 = X at *
  generalize (X + a * d * 18446744073709551616) % 115792089237316195423570985008687907853269984665640564039457584007913129639936 = Y at *
  unfold fourV at *
  clear f0 m q1 q2 q3 q4
  rw [ev_fn T131]; simp (maxSteps := 2000000) [ir131, p1, p2, p3, p4, f1, f2, f3]
end Go.Ab

namespace Go.Ab
attribute [local simp] runFn args0 e_skip e_reg regC_some e_seq seqC_n seqC_e seqC_r e_cond condC_t condC_f e_block e_loop e_exit e_ret nextC_n nextC_e nextC_r nextK_n nextK_e nextK_r evReg evOps evOp wants fp St.ev St.get St.set St.sets St.put St.apply St.pre preK inB lk up del hits V.cells V.cellsG allPlain Cell.plain pure1 keysOf okUn noK Ev.apart meets mkV splice fillC binC unC mmC eqCs eqC resVs resV one export1 V.keys V.keys1 outKeys valsKeys cellsKeys Cell.keys Blk.keys elsKeys fpCall fpCallG noTup reach getAll outW newW names srcs capsOf onesOf slB rowsOf V.ren V.ren1 Cell.ren Loc.ren locsRen Blk.ren inR outR place nm St.sweep swept St.kill killR lmap delAll St.trim reachL expR ownGet b2i_le wrap_u64 wrap_i64 bits_u64 bits_i64 or_u64 and_u64 Int.fdiv_eq_ediv_of_nonneg word mmC hits
theorem R_words (D : Nat) (a b c d : Int) : evFun T (D+1) 168 [.agg [.int .u64 a, .int .u64 b, .int .u64 c, .int .u64 d]] [] = some (.c (.slc (.l 0) 1 0 4), [], [⟨23, 1, true, true, [[.int .u64 d], [.int .u64 c], [.int .u64 b], [.int .u64 a]]⟩]) := by
  rw [ev_fn T168]; simp (maxSteps := 2000000) [ir168]
theorem R_four (D : Nat) (a b c d : Int) : evFun T (D+1) 169 [.c (.slc (.o 0) 1 0 4)] [⟨23, 1, true, true, [[.int .u64 d], [.int .u64 c], [.int .u64 b], [.int .u64 a]]⟩] = some (.agg [.int .u64 a, .int .u64 b, .int .u64 c, .int .u64 d], [some ⟨23, 1, true, true, [[.int .u64 d], [.int .u64 c], [.int .u64 b], [.int .u64 a]]⟩], []) := by
  rw [ev_fn T169]; simp (maxSteps := 2000000) [ir169]
theorem R_shr64 (D : Nat) (a b c d : Int) (ha : inW a) (hb : inW b) (hc : inW c) (hd : inW d) : evFun T (D+2) 132 [.agg [.int .u64 a, .int .u64 b, .int .u64 c, .int .u64 d], .c (.int .i64 64)] [] = some (.agg [.int .u64 0, .int .u64 a, .int .u64 b, .int .u64 c], [], []) := by
  have w := R_words D a b c d
  have f := R_four D 0 a b c
  rw [ev_fn T132]; (try simp only [Nat.add_assoc, Nat.reduceAdd] at w f); obtain ⟨call, hcall⟩ : ∃ call, call = evFun T (D + 1) := ⟨_, rfl⟩; rw [← hcall] at w f ⊢; clear hcall; simp (maxSteps := 2000000) [ir132, w, f, ir132_l0, ir132_t0, ir132_x0, loopC_step, List.replicate, maxRow]
theorem R_shl64 (D : Nat) (a b c d : Int) (ha : inW a) (hb : inW b) (hc : inW c) (hd : inW d) : evFun T (D+2) 134 [.agg [.int .u64 a, .int .u64 b, .int .u64 c, .int .u64 d], .c (.int .i64 64)] [] = some (.agg [.int .u64 b, .int .u64 c, .int .u64 d, .int .u64 0], [], []) := by
  have w := R_words D a b c d
  have f := R_four D b c d 0
  have e1 := inW_mod hb
  have e2 := inW_mod hc
  have e3 := inW_mod hd
  rw [ev_fn T134]; (try simp only [Nat.add_assoc, Nat.reduceAdd] at w f); obtain ⟨call, hcall⟩ : ∃ call, call = evFun T (D + 1) := ⟨_, rfl⟩; rw [← hcall] at w f ⊢; clear hcall; simp (maxSteps := 2000000) [ir134, w, f, ir134_l0, ir134_t0, ir134_x0, loopC_step, List.replicate, maxRow, e1, e2, e3]
end Go.Ab

/- Words for this claim: an evaluator of the program's functions, and what they come to. -/
import Derived.Test.YthknbnhchgbikaaQFb
import Derived.Test.YthknbnhchgbikaaQFa
import Derived.Test.YthknbnhchgbikaaAb3
set_option linter.all false
namespace Go.Ab
attribute [local simp] runFn args0 e_skip e_reg regC_some e_seq seqC_n seqC_e seqC_r e_cond condC_t condC_f e_block e_loop e_exit e_ret nextC_n nextC_e nextC_r nextK_n nextK_e nextK_r evReg evOps evOp wants fp St.ev St.get St.set St.sets St.put St.apply St.pre preK inB lk up del hits V.cells V.cellsG allPlain Cell.plain pure1 keysOf okUn noK Ev.apart meets mkV splice fillC binC unC mmC eqCs eqC resVs resV one export1 V.keys V.keys1 outKeys valsKeys cellsKeys Cell.keys Blk.keys elsKeys fpCall fpCallG noTup reach getAll outW newW names srcs capsOf onesOf slB rowsOf V.ren V.ren1 Cell.ren Loc.ren locsRen Blk.ren inR outR place nm St.sweep swept St.kill killR lmap delAll St.trim reachL expR ownGet b2i_le wrap_u64 wrap_i64 bits_u64 bits_i64 or_u64 and_u64 Int.fdiv_eq_ediv_of_nonneg word mmC hits
theorem ev_told_over (D : Nat) (a b c d : Int) (t : Bool) (ha : inW a) (hb : inW b) (hc : inW c) (hd : inW d) (h : a ≠ 0 ∨ b ≠ 0 ∨ 9223372036854775808 ≤ c) : evFun T (D+3) 114 [.agg [.int .u64 a, .int .u64 b, .int .u64 c, .int .u64 d], .c (.bool t)] [] = some (.tup [fixV 0, .c (.int .i64 3)], [], []) := by
  have hl := ev_len D a b c d ha hb hc hd
  have e : decide (127 < lenI a b c d) = true := by
    rw [decide_eq_true_iff, lenI_big ha hb hc hd]; exact h
  rw [ev_fn T114]; simp (maxSteps := 2000000) [ir114, hl, e, fixV]
/-- A number of 256 bits and half of one. -/
theorem ev_more63 (D : Nat) (n : Int) (hn : 0 ≤ n ∧ n < 57896044618658097711785492504343953926634992332820282019728792003956564819968) : evFun T (D+3) 119 [fourV n, .c (.int .i64 63)] [] = some (fourV (n + 9223372036854775808), [], []) := by
  have hw := ev_wide (D+1) 0 1
  have hs := ev_shl63 D
  have h1 := ev_add' (D+1) (h1 := n / 18446744073709551616 % 18446744073709551616) (l1 := n % 18446744073709551616) (h2 := 0) (l2 := 9223372036854775808) (n % 340282366920938463463374607431768211456) 9223372036854775808 (by unfold inTwo; omega) (by unfold inTwo; omega) (by omega) (by omega) (by omega) (by omega)
  have h2 := ev_add' (D+1) (h1 := n / 6277101735386680763835789423207666416102355444464034512896) (l1 := n / 340282366920938463463374607431768211456 % 18446744073709551616) (h2 := 0) (l2 := 0) (n / 340282366920938463463374607431768211456) 0 (by unfold inTwo; omega) (by unfold inTwo; omega) (by omega) (by omega) (by omega) (by omega)
  have h3 := ev_add' (D+1) (h1 := n / 6277101735386680763835789423207666416102355444464034512896) (l1 := n / 340282366920938463463374607431768211456 % 18446744073709551616) (h2 := 0) (l2 := 1) (n / 340282366920938463463374607431768211456) 1 (by unfold inTwo; omega) (by unfold inTwo; omega) (by omega) (by omega) (by omega) (by omega)
  have e2 : (n / 340282366920938463463374607431768211456 + 0) % 340282366920938463463374607431768211456 / 18446744073709551616 = n / 6277101735386680763835789423207666416102355444464034512896 := by omega
  have e3 : (n / 340282366920938463463374607431768211456 + 0) % 340282366920938463463374607431768211456 % 18446744073709551616 = n / 340282366920938463463374607431768211456 % 18446744073709551616 := by omega
  simp only [twoV, e2, e3] at h1 h2 h3
  by_cases h : 340282366920938463463374607431768211456 ≤ n % 340282366920938463463374607431768211456 + 9223372036854775808
  · have e : decide (340282366920938463463374607431768211456 ≤ n % 340282366920938463463374607431768211456 + 9223372036854775808) = true := by simpa using h
    rw [e] at h1
    unfold fourV
    rw [ev_fn T119]; simp (maxSteps := 2000000) [ir119, hw, hs, h1, h2, h3]
    omega
  · have e : decide (340282366920938463463374607431768211456 ≤ n % 340282366920938463463374607431768211456 + 9223372036854775808) = false := by simpa using h
    rw [e] at h1
    unfold fourV
    rw [ev_fn T119]; simp (maxSteps := 2000000) [ir119, hw, hs, h1, h2, h3]
    omega
end Go.Ab

namespace Go.Ab
attribute [local simp] runFn args0 e_skip e_reg regC_some e_seq seqC_n seqC_e seqC_r e_cond condC_t condC_f e_block e_loop e_exit e_ret nextC_n nextC_e nextC_r nextK_n nextK_e nextK_r evReg evOps evOp wants fp St.ev St.get St.set St.sets St.put St.apply St.pre preK inB lk up del hits V.cells V.cellsG allPlain Cell.plain pure1 keysOf okUn noK Ev.apart meets mkV splice fillC binC unC mmC eqCs eqC resVs resV one export1 V.keys V.keys1 outKeys valsKeys cellsKeys Cell.keys Blk.keys elsKeys fpCall fpCallG noTup reach getAll outW newW names srcs capsOf onesOf slB rowsOf V.ren V.ren1 Cell.ren Loc.ren locsRen Blk.ren inR outR place nm St.sweep swept St.kill killR lmap delAll St.trim reachL expR ownGet b2i_le wrap_u64 wrap_i64 bits_u64 bits_i64 or_u64 and_u64 Int.fdiv_eq_ediv_of_nonneg word mmC hits
def mulN (a b : Int) : Int := (absI a * absI b + 9223372036854775808) / 18446744073709551616
def toldV (t : Bool) (n : Int) : V := if n < 170141183460469231731687303715884105728 then .tup [fixV (signI t n), .c (.int .i64 0)] else .tup [fixV 0, .c (.int .i64 3)]
theorem abs_bound {a : Int} (h : inFix a) : 0 ≤ absI a ∧ absI a ≤ 170141183460469231731687303715884105728 := by unfold inFix at h; unfold absI; split <;> omega
theorem ev_told (D : Nat) (n : Int) (t : Bool) (hn : 0 ≤ n ∧ n < 115792089237316195423570985008687907853269984665640564039457584007913129639936) : evFun T (D+3) 114 [fourV n, .c (.bool t)] [] = some (toldV t n, [], []) := by
  unfold toldV fourV
  by_cases h : n < 170141183460469231731687303715884105728
  · have e1 : n / 6277101735386680763835789423207666416102355444464034512896 = 0 := by omega
    have e2 : n / 340282366920938463463374607431768211456 % 18446744073709551616 = 0 := by omega
    have e3 : n / 18446744073709551616 % 18446744073709551616 = n / 18446744073709551616 := by omega
    rw [if_pos h, e1, e2, e3]
    exact ev_told_ok D n t ⟨hn.1, h⟩
  · rw [if_neg h]
    exact ev_told_over D _ _ _ _ t (by unfold inW; omega) (by unfold inW; omega) (by unfold inW; omega) (by unfold inW; omega) (by omega)
theorem ev_mul (D : Nat) (a b : Int) (ha : inFix a) (hb : inFix b) : evFun T (D+4) 61 [fixV a, fixV b] [] = some (toldV (!(decide (a < 0) == decide (b < 0))) (mulN a b), [], []) := by
  have x := abs_bound ha
  have y := abs_bound hb
  have hp := prod_bound x.1 x.2 y.1 y.2
  have h1 := ev_of (D+1) a ha
  have h2 := ev_of (D+1) b hb
  have h3 := ev_lmul (D+1) (absI a / 18446744073709551616) (absI a % 18446744073709551616) (absI b / 18446744073709551616) (absI b % 18446744073709551616) (absI a * absI b) (by unfold inW; omega) (by unfold inW; omega) (by unfold inW; omega) (by unfold inW; omega)
    (by rw [show absI a / 18446744073709551616 * 18446744073709551616 + absI a % 18446744073709551616 = absI a by omega, show absI b / 18446744073709551616 * 18446744073709551616 + absI b % 18446744073709551616 = absI b by omega])
  have h4 := ev_more63 D (absI a * absI b) (by omega)
  have h5 := ev_shr64 (D+1) ((absI a * absI b + 9223372036854775808) / 6277101735386680763835789423207666416102355444464034512896) ((absI a * absI b + 9223372036854775808) / 340282366920938463463374607431768211456 % 18446744073709551616) ((absI a * absI b + 9223372036854775808) / 18446744073709551616 % 18446744073709551616) ((absI a * absI b + 9223372036854775808) % 18446744073709551616) (by unfold inW; omega) (by unfold inW; omega) (by unfold inW; omega)
  have h6 := ev_told D (mulN a b) (!(decide (a < 0) == decide (b < 0))) (by unfold mulN; omega)
  have e0 : mulN a b / 6277101735386680763835789423207666416102355444464034512896 = 0 := by unfold mulN; omega
  have e1 : mulN a b / 340282366920938463463374607431768211456 % 18446744073709551616 = (absI a * absI b + 9223372036854775808) / 6277101735386680763835789423207666416102355444464034512896 := by unfold mulN; omega
  have e2 : mulN a b / 18446744073709551616 % 18446744073709551616 = (absI a * absI b + 9223372036854775808) / 340282366920938463463374607431768211456 % 18446744073709551616 := by unfold mulN; omega
  have e3 : mulN a b % 18446744073709551616 = (absI a * absI b + 9223372036854775808) / 18446744073709551616 % 18446744073709551616 := by unfold mulN; omega
  simp only [fourV, e0, e1, e2, e3] at h3 h4 h6
  simp only [fixV, sizeV] at h1 h2
  have hv : ∀ t n, ∃ u v e, toldV t n = .tup [.agg [.int .i64 u, .int .u64 v], .c (.int .i64 e)] := by
    intro t n; unfold toldV fixV; split <;> exact ⟨_, _, _, rfl⟩
  obtain ⟨u, v, e, hv⟩ := hv (!(decide (a < 0) == decide (b < 0))) (mulN a b)
  rw [hv] at h6 ⊢
  unfold fixV
  clear hp x y e0 e1 e2 e3 ha hb hv
  rw [ev_fn T61]; simp (maxSteps := 2000000) [ir61, h1, h2, h3, h4, h5, h6]
end Go.Ab

namespace Go.Ab
attribute [local simp] runFn args0 e_skip e_reg regC_some e_seq seqC_n seqC_e seqC_r e_cond condC_t condC_f e_block e_loop e_exit e_ret nextC_n nextC_e nextC_r nextK_n nextK_e nextK_r evReg evOps evOp wants fp St.ev St.get St.set St.sets St.put St.apply St.pre preK inB lk up del hits V.cells V.cellsG allPlain Cell.plain pure1 keysOf okUn noK Ev.apart meets mkV splice fillC binC unC mmC eqCs eqC resVs resV one export1 V.keys V.keys1 outKeys valsKeys cellsKeys Cell.keys Blk.keys elsKeys fpCall fpCallG noTup reach getAll outW newW names srcs capsOf onesOf slB rowsOf V.ren V.ren1 Cell.ren Loc.ren locsRen Blk.ren inR outR place nm St.sweep swept St.kill killR lmap delAll St.trim reachL expR ownGet b2i_le wrap_u64 wrap_i64 bits_u64 bits_i64 or_u64 and_u64 Int.fdiv_eq_ediv_of_nonneg word mmC hits
def inMay (a : Int) : Prop := -170141183460469231731687303715884105728 < a ∧ a < 170141183460469231731687303715884105728
theorem may_fix {a : Int} (h : inMay a) : inFix a := by unfold inMay at h; unfold inFix; omega
def sumV (s : Int) : V := if absI s < 170141183460469231731687303715884105728 then .tup [fixV s, .c (.int .i64 0)] else .tup [fixV 0, .c (.int .i64 3)]
theorem ev_fadd (D : Nat) (a b : Int) (ha : inMay a) (hb : inMay b) : evFun T (D+4) 60 [fixV a, fixV b] [] = some (sumV (a + b), [], []) := by
  have h1 := ev_of (D+1) a (may_fix ha)
  have h2 := ev_of (D+1) b (may_fix hb)
  unfold inMay at ha hb
  have x : 0 ≤ absI a ∧ absI a < 170141183460469231731687303715884105728 := by unfold absI; split <;> omega
  have y : 0 ≤ absI b ∧ absI b < 170141183460469231731687303715884105728 := by unfold absI; split <;> omega
  have h3 := ev_add' (D+2) (h1 := absI a / 18446744073709551616) (l1 := absI a % 18446744073709551616) (h2 := absI b / 18446744073709551616) (l2 := absI b % 18446744073709551616) (absI a) (absI b) (by unfold inTwo; omega) (by unfold inTwo; omega) rfl rfl rfl rfl
  have h4 := ev_sub' (D+2) (h1 := absI a / 18446744073709551616) (l1 := absI a % 18446744073709551616) (h2 := absI b / 18446744073709551616) (l2 := absI b % 18446744073709551616) (absI a) (absI b) (by unfold inTwo; omega) (by unfold inTwo; omega) rfl rfl rfl rfl
  have h5 := ev_sub' (D+2) (h1 := absI b / 18446744073709551616) (l1 := absI b % 18446744073709551616) (h2 := absI a / 18446744073709551616) (l2 := absI a % 18446744073709551616) (absI b) (absI a) (by unfold inTwo; omega) (by unfold inTwo; omega) rfl rfl rfl rfl
  have e3 : (absI a + absI b) % 340282366920938463463374607431768211456 = absI a + absI b := by omega
  simp only [twoV, e3] at h3 h4 h5
  have h6 := ev_wide (D+2) ((absI a + absI b) / 18446744073709551616) ((absI a + absI b) % 18446744073709551616)
  have h7 := ev_told D (absI a + absI b) (decide (a < 0)) (by omega)
  have f1 : (absI a + absI b) / 6277101735386680763835789423207666416102355444464034512896 = 0 := by omega
  have f2 : (absI a + absI b) / 340282366920938463463374607431768211456 % 18446744073709551616 = 0 := by omega
  have f3 : (absI a + absI b) / 18446744073709551616 % 18446744073709551616 = (absI a + absI b) / 18446744073709551616 := by omega
  simp only [fourV, f1, f2, f3] at h7
  simp only [fixV, sizeV] at h1 h2
  by_cases hs : decide (a < 0) = decide (b < 0)
  · have hq : (decide (a < 0) == decide (b < 0)) = true := by simpa using hs
    have hv : toldV (decide (a < 0)) (absI a + absI b) = sumV (a + b) := by
      unfold toldV sumV signI absI
      by_cases p : a < 0 <;> by_cases q : b < 0 <;> simp [p, q] at hs ⊢
      · rw [if_pos (show a + b < 0 by omega)]
        rw [show -a + -b = -(a + b) by omega, Int.neg_neg]
      · rw [if_neg (show ¬ a + b < 0 by omega)]
    obtain ⟨u, v, e, hv2⟩ : ∃ u v e, sumV (a + b) = .tup [.agg [.int .i64 u, .int .u64 v], .c (.int .i64 e)] := by unfold sumV fixV; split <;> exact ⟨_, _, _, rfl⟩
    rw [hv, hv2] at h7
    rw [hv2]
    unfold fixV
    clear ha hb x y e3 f1 f2 f3 hv hv2 hs
    rw [ev_fn T60]; simp (maxSteps := 2000000) [ir60, h1, h2, h3, h6, h7, hq]
  · have hq : (decide (a < 0) == decide (b < 0)) = false := by simpa using hs
    have hv : sumV (a + b) = .tup [fixV (a + b), .c (.int .i64 0)] := by
      unfold sumV absI
      rw [if_pos]
      by_cases p : a < 0 <;> by_cases q : b < 0 <;> simp [p, q] at hs ⊢ <;> split <;> omega
    rw [hv]
    by_cases hl : absI a < absI b
    · have g0 : (absI b - absI a) % 340282366920938463463374607431768211456 = absI b - absI a := by omega
      have g1 := ev_fix (D+1) (absI b - absI a) (decide (b < 0)) (by omega)
      have g2 : decide (absI a < absI b) = true := by simpa using hl
      have g3 : (if decide (b < 0) = true then -(absI b - absI a) else if absI b - absI a = 170141183460469231731687303715884105728 then -(absI b - absI a) else absI b - absI a) = a + b := by
        rw [if_neg (show ¬ absI b - absI a = 170141183460469231731687303715884105728 by omega)]
        unfold absI
        by_cases p : a < 0 <;> by_cases q : b < 0 <;> simp [p, q] at hs ⊢ <;> omega
      rw [g3] at g1
      rw [g0] at h5
      rw [g2] at h4
      simp only [fixV, sizeV] at g1 ⊢
      clear ha hb x y e3 f1 f2 f3 hv hs g0 g3 h7
      rw [ev_fn T60]; simp (maxSteps := 2000000) [ir60, h1, h2, h4, h5, g1, hq]
    · have g0 : (absI a - absI b) % 340282366920938463463374607431768211456 = absI a - absI b := by omega
      have g1 := ev_fix (D+1) (absI a - absI b) (decide (a < 0)) (by omega)
      have g2 : decide (absI a < absI b) = false := by simpa using hl
      have g3 : (if decide (a < 0) = true then -(absI a - absI b) else if absI a - absI b = 170141183460469231731687303715884105728 then -(absI a - absI b) else absI a - absI b) = a + b := by
        rw [if_neg (show ¬ absI a - absI b = 170141183460469231731687303715884105728 by omega)]
        unfold absI
        by_cases p : a < 0 <;> by_cases q : b < 0 <;> simp [p, q] at hs ⊢ <;> omega
      rw [g3] at g1
      rw [g0, g2] at h4
      simp only [fixV, sizeV] at g1 ⊢
      clear ha hb x y e3 f1 f2 f3 hv hs g0 g3 h7
      rw [ev_fn T60]; simp (maxSteps := 2000000) [ir60, h1, h2, h4, g1, hq]
end Go.Ab

namespace Go.Ab
attribute [local simp] runFn args0 e_skip e_reg regC_some e_seq seqC_n seqC_e seqC_r e_cond condC_t condC_f e_block e_loop e_exit e_ret nextC_n nextC_e nextC_r nextK_n nextK_e nextK_r evReg evOps evOp wants fp St.ev St.get St.set St.sets St.put St.apply St.pre preK inB lk up del hits V.cells V.cellsG allPlain Cell.plain pure1 keysOf okUn noK Ev.apart meets mkV splice fillC binC unC mmC eqCs eqC resVs resV one export1 V.keys V.keys1 outKeys valsKeys cellsKeys Cell.keys Blk.keys elsKeys fpCall fpCallG noTup reach getAll outW newW names srcs capsOf onesOf slB rowsOf V.ren V.ren1 Cell.ren Loc.ren locsRen Blk.ren inR outR place nm St.sweep swept St.kill killR lmap delAll St.trim reachL expR ownGet b2i_le wrap_u64 wrap_i64 bits_u64 bits_i64 or_u64 and_u64 Int.fdiv_eq_ediv_of_nonneg word mmC hits
theorem sumV_fit (s : Int) : sumV s = .tup [.agg [.int .i64 (fitN s / 18446744073709551616), .int .u64 (fitN s % 18446744073709551616)], .c (.int .i64 (fitE s))] := by
  unfold sumV
  by_cases h : absI s < 170141183460469231731687303715884105728
  · rw [if_pos h]
    have := fit_ok (of_absI_lt h)
    rw [this.1, this.2]; rfl
  · rw [if_neg h]
    have h' : fitE s ≠ 0 := by rw [Ne, fitE_iff]; unfold absI at h; split at h <;> omega
    have := fitN_err h'
    rw [this.1, this.2]; rfl
theorem toldV_fit (t : Bool) {n : Int} (h0 : 0 ≤ n) : toldV t n = .tup [.agg [.int .i64 (fitN (signI t n) / 18446744073709551616), .int .u64 (fitN (signI t n) % 18446744073709551616)], .c (.int .i64 (fitE (signI t n)))] := by
  have h1 : toldV t n = sumV (signI t n) := by
    unfold toldV sumV; rw [absI_sign t h0]
  rw [h1, sumV_fit]
theorem E_add (D : Nat) {h1 l1 h2 l2 : Int} (k1 : okM h1 l1) (k2 : okM h2 l2) : evFun T (D+4) 60 [.agg [.int .i64 h1, .int .u64 l1], .agg [.int .i64 h2, .int .u64 l2]] [] =
    some (.tup [.agg [.int .i64 (fitN (fv h1 l1 + fv h2 l2) / 18446744073709551616), .int .u64 (fitN (fv h1 l1 + fv h2 l2) % 18446744073709551616)], .c (.int .i64 (fitE (fv h1 l1 + fv h2 l2)))], [], []) := by
  have h := ev_fadd D (fv h1 l1) (fv h2 l2) (okM_fv k1) (okM_fv k2)
  simp only [fixV, fv_hi k1.f, fv_lo k1.f, fv_hi k2.f, fv_lo k2.f] at h
  rw [h, sumV_fit]
theorem E_mul (D : Nat) {h1 l1 h2 l2 : Int} (k1 : okF h1 l1) (k2 : okF h2 l2) : evFun T (D+4) 61 [.agg [.int .i64 h1, .int .u64 l1], .agg [.int .i64 h2, .int .u64 l2]] [] =
    some (.tup [.agg [.int .i64 (fitN (mulI (fv h1 l1) (fv h2 l2)) / 18446744073709551616), .int .u64 (fitN (mulI (fv h1 l1) (fv h2 l2)) % 18446744073709551616)], .c (.int .i64 (fitE (mulI (fv h1 l1) (fv h2 l2))))], [], []) := by
  have h := ev_mul D (fv h1 l1) (fv h2 l2) (okF_fv k1) (okF_fv k2)
  simp only [fixV, fv_hi k1, fv_lo k1, fv_hi k2, fv_lo k2] at h
  rw [h, toldV_fit]
  · rfl
  · have := Int.mul_nonneg (absI_nonneg (fv h1 l1)) (absI_nonneg (fv h2 l2))
    unfold mulN; omega
end Go.Ab

namespace Go.Ab
attribute [local simp] runFn args0 e_skip e_reg regC_some e_seq seqC_n seqC_e seqC_r e_cond condC_t condC_f e_block e_loop e_exit e_ret nextC_n nextC_e nextC_r nextK_n nextK_e nextK_r evReg evOps evOp wants fp St.ev St.get St.set St.sets St.put St.apply St.pre preK inB lk up del hits V.cells V.cellsG allPlain Cell.plain pure1 keysOf okUn noK Ev.apart meets mkV splice fillC binC unC mmC eqCs eqC resVs resV one export1 V.keys V.keys1 outKeys valsKeys cellsKeys Cell.keys Blk.keys elsKeys fpCall fpCallG noTup reach getAll outW newW names srcs capsOf onesOf slB rowsOf V.ren V.ren1 Cell.ren Loc.ren locsRen Blk.ren inR outR place nm St.sweep swept St.kill killR lmap delAll St.trim reachL expR ownGet b2i_le wrap_u64 wrap_i64 bits_u64 bits_i64 or_u64 and_u64 Int.fdiv_eq_ediv_of_nonneg word mmC hits
theorem take4 {i : Nat} (h : i < 4) (a b c d : Int) : List.take 1 (List.drop i [Cell.int .u64 a, .int .u64 b, .int .u64 c, .int .u64 d]) = [.int .u64 (pick4 i a b c d)] := by
  match i, h with
  | 0, _ => rfl
  | 1, _ => rfl
  | 2, _ => rfl
  | 3, _ => rfl
theorem put4 {i : Nat} (h : i < 4) (a b c d x : Int) : List.take i [Cell.int .u64 a, .int .u64 b, .int .u64 c, .int .u64 d] ++ Cell.int .u64 x :: List.drop (i + 1) [Cell.int .u64 a, .int .u64 b, .int .u64 c, .int .u64 d] =
    [.int .u64 (if i = 0 then x else a), .int .u64 (if i = 1 then x else b), .int .u64 (if i = 2 then x else c), .int .u64 (if i = 3 then x else d)] := by
  match i, h with
  | 0, _ => rfl
  | 1, _ => rfl
  | 2, _ => rfl
  | 3, _ => rfl
theorem put4' {i : Nat} (h : i < 4) (a b c d x : Int) : List.take i [Cell.int .u64 a, .int .u64 b, .int .u64 c, .int .u64 d] ++ Cell.int .u64 x :: List.drop i [Cell.int .u64 b, .int .u64 c, .int .u64 d] =
    [.int .u64 (if i = 0 then x else a), .int .u64 (if i = 1 then x else b), .int .u64 (if i = 2 then x else c), .int .u64 (if i = 3 then x else d)] := put4 h a b c d x
theorem andI_one {a : Int} (h : 0 ≤ a) : andI a 1 = a % 2 := by
  obtain ⟨x, rfl⟩ := Int.eq_ofNat_of_zero_le h
  have : (x &&& 1 : Nat) = x % 2 := Nat.and_one_is_mod x
  unfold andI
  simp only [Int.toNat_natCast]
  rw [show ((1 : Int).toNat) = 1 from rfl, this]; rfl
theorem pow_pos' (m : Nat) : (0 : Int) ≤ 2 ^ m := Int.le_of_lt (Int.pow_pos (by decide))
theorem small_wrap {i : Nat} (h : i < 4) : ((i : Int) + 9223372036854775808) % 18446744073709551616 - 9223372036854775808 = i := by omega
theorem min_m {m : Nat} (h : m < 64) : min m 64 = m := by omega
theorem pick4_in {i : Nat} {a b c d : Int} (ha : inW a) (hb : inW b) (hc : inW c) (hd : inW d) : inW (pick4 i a b c d) := by unfold pick4; (repeat' split) <;> assumption
theorem shr_in {x : Int} (m : Nat) (h : inW x) : inW (x / 2 ^ m) := by
  unfold inW at *
  have h1 : (0 : Int) < 2 ^ m := Int.pow_pos (by decide)
  refine ⟨Int.ediv_nonneg h.1 (by omega), Int.lt_of_le_of_lt (Int.ediv_le_self _ h.1) h.2⟩
theorem ev_bit (D : Nat) (N a b c d : Int) (i m : Nat) (h1 : N.tdiv 64 = i) (h2 : N.tmod 64 = m) (hi : i < 4) (hm : m < 64) (ha : inW a) (hb : inW b) (hc : inW c) (hd : inW d) :
    evFun T (D+1) 164 [.agg [.int .u64 a, .int .u64 b, .int .u64 c, .int .u64 d], .c (.int .i64 N)] [] = some (.c (.int .u64 (pick4 i a b c d / 2 ^ m % 2)), [], []) := by
  have q := shr_in m (pick4_in (i := i) ha hb hc hd)
  have e1 := inW_mod q
  have e2 : andI (pick4 i a b c d / 2 ^ m) 1 = pick4 i a b c d / 2 ^ m % 2 := andI_one q.1
  have e3 := small_wrap hi
  have e4 := min_m hm
  have e5 := pow_pos' m
  have e6 : i + 1 ≤ 4 := by omega
  have e7 : (i : Int) < 4 := by omega
  rw [ev_fn T164]; simp (maxSteps := 2000000) [ir164, h1, h2, take4, hi, e1, e2, e3, e4, e5, e6, e7]
end Go.Ab

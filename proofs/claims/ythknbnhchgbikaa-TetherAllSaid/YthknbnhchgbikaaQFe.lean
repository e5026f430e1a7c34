/- Words for this claim: an evaluator of the program's functions, and what they come to. -/
import Derived.Test.YthknbnhchgbikaaQFd
import Derived.Test.YthknbnhchgbikaaAb3
set_option linter.all false
namespace Go.Ab
attribute [local simp] runFn args0 e_skip e_reg regC_some e_seq seqC_n seqC_e seqC_r e_cond condC_t condC_f e_block e_loop e_exit e_ret nextC_n nextC_e nextC_r nextK_n nextK_e nextK_r evReg evOps evOp wants fp St.ev St.get St.set St.sets St.put St.apply St.pre preK inB lk up del hits V.cells V.cellsG allPlain Cell.plain pure1 keysOf okUn noK Ev.apart meets mkV splice fillC binC unC mmC eqCs eqC resVs resV one export1 V.keys V.keys1 outKeys valsKeys cellsKeys Cell.keys Blk.keys elsKeys fpCall fpCallG noTup reach getAll outW newW names srcs capsOf onesOf slB rowsOf V.ren V.ren1 Cell.ren Loc.ren locsRen Blk.ren inR outR place nm St.sweep swept St.kill killR lmap delAll St.trim reachL expR ownGet b2i_le wrap_u64 wrap_i64 bits_u64 bits_i64 or_u64 and_u64 Int.fdiv_eq_ediv_of_nonneg word mmC hits
def rootS (a b c d L L1 N0 N sh sl : Int) (cr : List Nat) : St :=
  { env := [(0, .agg [.int .u64 a, .int .u64 b, .int .u64 c, .int .u64 d]), (1, .c (.ptr { k := Key.l 1, i := 0, o := 0 })), (2, .c (.ptr { k := Key.l 2, i := 0, o := 0 })), (3, .c (.ptr { k := Key.l 3, i := 0, o := 0 })), (7, .agg [.int .u64 a, .int .u64 b, .int .u64 c, .int .u64 d]), (8, .c (.int IntKind.i64 L)), (9, .c (.int .i64 L1)), (10, .c (.int .i64 N0)), (4, .c (.int .i64 N))],
    loc := [(1, { T := 181, sz := 4, own := true, pl := true, els := [[.int .u64 a, .int .u64 b, .int .u64 c, .int .u64 d]] }), (2, { T := 108, sz := 2, own := true, pl := true, els := [[.int .u64 0, .int .u64 0]] }), (3, { T := 108, sz := 2, own := true, pl := true, els := [[.int .u64 sh, .int .u64 sl]] })],
    out := [], cr := cr }
theorem lt_wrap {m : Nat} (h : m < 64) : (2 : Int) ^ m % 18446744073709551616 = 2 ^ m := by
  have p : (0 : Int) < 2 ^ m := Int.pow_pos (by decide)
  obtain ⟨y, hy, hp⟩ := pow64 m h
  have := Int.mul_le_mul_of_nonneg_left (show (1 : Int) ≤ y by omega) (show (0 : Int) ≤ 2 ^ m * 2 by omega)
  rw [← Int.mul_assoc] at hy
  rw [Int.mul_one] at this
  exact Int.emod_eq_of_lt (by omega) (by omega)
theorem root_lo (D : Nat) (a b c d L L1 N0 sh sl C x : Int) (PV : V) (m : Nat) (u : Bool) (cr : List Nat) (hcr : cr = [3, 2, 1] ∨ cr = [5, 3, 2, 1]) (hm : m < 64) (hx : orI (sl % 18446744073709551616) (2 ^ m % 18446744073709551616) = x) (hP : ∃ p q r s, PV = .agg [.int .u64 p, .int .u64 q, .int .u64 r, .int .u64 s])
    (h1 : ∀ D, evFun T (D+2) 120 [.agg [.int .u64 sh, .int .u64 x], .agg [.int .u64 sh, .int .u64 x]] [] = some (PV, [], []))
    (h2 : ∀ D, evFun T (D+3) 124 [PV, .agg [.int .u64 a, .int .u64 b, .int .u64 c, .int .u64 d]] [] = some (.c (.int .i64 C), [], [])) (h3 : decide (C ≤ 0) = u) :
    ∀ K, nextK K ir121_t0 ir121_x0 (evCode (evFun T (D+3)) ir121_l0 (rootS a b c d L L1 N0 ((m : Int) + 1) sh sl cr)) = K (if u then rootS a b c d L L1 N0 m sh x [5, 3, 2, 1] else rootS a b c d L L1 N0 m sh sl [5, 3, 2, 1]) := by
  intro K
  obtain ⟨p, q, r, s, rfl⟩ := hP
  have e4 := min_m hm
  have e6 : (m : Int) < 64 := by omega
  have e7 : (0 : Int) < (m : Int) + 1 := by omega
  have e8 : ((m : Int) + 9223372036854775808) % 18446744073709551616 - 9223372036854775808 = (m : Int) := by omega
  have e9 : (m : Int) + 1 - 1 = m := by omega
  have e5 := lt_wrap hm
  rw [e5] at hx
  rcases hcr with rfl | rfl <;> cases u <;>
  simp (maxSteps := 2000000) [rootS, ir121_l0, ir121_t0, ir121_x0, h1, h2, h3, e4, e5, e6, e7, e8, e9, hx]
theorem root_hi (D : Nat) (a b c d L L1 N0 sh sl C x : Int) (PV : V) (m : Nat) (u : Bool) (cr : List Nat) (hcr : cr = [3, 2, 1] ∨ cr = [5, 3, 2, 1]) (hm : m < 64) (hx : orI (sh % 18446744073709551616) (2 ^ m % 18446744073709551616) = x) (hP : ∃ p q r s, PV = .agg [.int .u64 p, .int .u64 q, .int .u64 r, .int .u64 s])
    (h1 : ∀ D, evFun T (D+2) 120 [.agg [.int .u64 x, .int .u64 sl], .agg [.int .u64 x, .int .u64 sl]] [] = some (PV, [], []))
    (h2 : ∀ D, evFun T (D+3) 124 [PV, .agg [.int .u64 a, .int .u64 b, .int .u64 c, .int .u64 d]] [] = some (.c (.int .i64 C), [], [])) (h3 : decide (C ≤ 0) = u) :
    ∀ K, nextK K ir121_t0 ir121_x0 (evCode (evFun T (D+3)) ir121_l0 (rootS a b c d L L1 N0 ((m : Int) + 64 + 1) sh sl cr)) = K (if u then rootS a b c d L L1 N0 ((m : Int) + 64) x sl [5, 3, 2, 1] else rootS a b c d L L1 N0 ((m : Int) + 64) sh sl [5, 3, 2, 1]) := by
  intro K
  obtain ⟨p, q, r, s, rfl⟩ := hP
  have e4 := min_m hm
  have e6 : ¬ ((m : Int) + 64 < 64) := by omega
  have e6' : ¬ ((m : Int) < 0) := by omega
  have e7 : (0 : Int) < (m : Int) + 64 + 1 := by omega
  have e7' : (0 : Int) < (m : Int) + 65 := by omega
  have e8 : ((m : Int) + 64 + 9223372036854775808) % 18446744073709551616 - 9223372036854775808 = (m : Int) + 64 := by omega
  have e8' : ((m : Int) + 64 - 64 + 9223372036854775808) % 18446744073709551616 - 9223372036854775808 = (m : Int) := by omega
  have e8'' : ((m : Int) + 9223372036854775808) % 18446744073709551616 - 9223372036854775808 = (m : Int) := by omega
  have e9 : (m : Int) + 64 + 1 - 1 = m + 64 := by omega
  have e5 := lt_wrap hm
  rw [e5] at hx
  rcases hcr with rfl | rfl <;> cases u <;>
  simp (maxSteps := 2000000) [rootS, ir121_l0, ir121_t0, ir121_x0, h1, h2, h3, e4, e5, e6, e6', e7, e7', e8, e8', e8'', e9, hx]
theorem root_exit (D : Nat) (a b c d L L1 N0 sh sl : Int) (cr : List Nat) :
    ∀ K, nextK K ir121_t0 ir121_x0 (evCode (evFun T (D+3)) ir121_l0 (rootS a b c d L L1 N0 0 sh sl cr)) = some (.exit 0, ((rootS a b c d L L1 N0 0 sh sl cr).put (some 11) (.c (.int .i64 0))).put (some 12) (.c (.bool false))) := by
  intro K
  simp [rootS, ir121_l0, ir121_t0, ir121_x0]
end Go.Ab

namespace Go.Ab
attribute [local simp] runFn args0 e_skip e_reg regC_some e_seq seqC_n seqC_e seqC_r e_cond condC_t condC_f e_block e_loop e_exit e_ret nextC_n nextC_e nextC_r nextK_n nextK_e nextK_r evReg evOps evOp wants fp St.ev St.get St.set St.sets St.put St.apply St.pre preK inB lk up del hits V.cells V.cellsG allPlain Cell.plain pure1 keysOf okUn noK Ev.apart meets mkV splice fillC binC unC mmC eqCs eqC resVs resV one export1 V.keys V.keys1 outKeys valsKeys cellsKeys Cell.keys Blk.keys elsKeys fpCall fpCallG noTup reach getAll outW newW names srcs capsOf onesOf slB rowsOf V.ren V.ren1 Cell.ren Loc.ren locsRen Blk.ren inR outR place nm St.sweep swept St.kill killR lmap delAll St.trim reachL expR ownGet b2i_le wrap_u64 wrap_i64 bits_u64 bits_i64 or_u64 and_u64 Int.fdiv_eq_ediv_of_nonneg word mmC hits
def rS (A : Int) (L n0 : Nat) (k : Nat) (cr : List Nat) : St :=
  rootS (A / 6277101735386680763835789423207666416102355444464034512896) (A / 340282366920938463463374607431768211456 % 18446744073709551616) (A / 18446744073709551616 % 18446744073709551616) (A % 18446744073709551616) L ((L : Int) + 1) (n0 : Int) ((n0 - k : Nat) : Int) (rootV A n0 k / 18446744073709551616) (rootV A n0 k % 18446744073709551616) cr
theorem cmpI_le (a b : Int) : decide (cmpI a b ≤ 0) = decide (a ≤ b) := by
  unfold cmpI
  by_cases h : a < b
  · rw [if_pos h]; simp; omega
  · rw [if_neg h]
    by_cases h2 : b < a
    · rw [if_pos h2]; simp; omega
    · rw [if_neg h2]; simp; omega
theorem ev_lcmp' (D : Nat) (P A : Int) (hP : 0 ≤ P) (hA : 0 ≤ A) : evFun T (D+3) 124 [fourV P, fourV A] [] = some (.c (.int .i64 (cmpI P A)), [], []) := by
  unfold fourV
  rw [ev_lcmp D _ _ _ _ _ _ _ _ (by unfold inW; omega) (by unfold inW; omega) (by unfold inW; omega) (by unfold inW; omega) (by unfold inW; omega) (by unfold inW; omega)]
  rw [show ((P / 6277101735386680763835789423207666416102355444464034512896 * 18446744073709551616 + P / 340282366920938463463374607431768211456 % 18446744073709551616) * 18446744073709551616 + P / 18446744073709551616 % 18446744073709551616) * 18446744073709551616 + P % 18446744073709551616 = P by omega,
    show ((A / 6277101735386680763835789423207666416102355444464034512896 * 18446744073709551616 + A / 340282366920938463463374607431768211456 % 18446744073709551616) * 18446744073709551616 + A / 18446744073709551616 % 18446744073709551616) * 18446744073709551616 + A % 18446744073709551616 = A by omega]
theorem ev_sq (D : Nat) (t : Int) (h0 : 0 ≤ t) (h1 : t < 340282366920938463463374607431768211456) : evFun T (D+2) 120 [.agg [.int .u64 (t / 18446744073709551616), .int .u64 (t % 18446744073709551616)], .agg [.int .u64 (t / 18446744073709551616), .int .u64 (t % 18446744073709551616)]] [] = some (fourV (t * t), [], []) :=
  ev_lmul D _ _ _ _ (t * t) (by unfold inW; omega) (by unfold inW; omega) (by unfold inW; omega) (by unfold inW; omega) (by rw [show t / 18446744073709551616 * 18446744073709551616 + t % 18446744073709551616 = t by omega])
theorem rS_round (D : Nat) (A : Int) (L n0 k : Nat) (cr : List Nat) (hcr : cr = [3, 2, 1] ∨ cr = [5, 3, 2, 1]) (hk : k < n0) (hn : n0 ≤ 128) (hA : 0 ≤ A) (hA' : A < 115792089237316195423570985008687907853269984665640564039457584007913129639936) :
    ∀ K, nextK K ir121_t0 ir121_x0 (evCode (evFun T (D+3)) ir121_l0 (rS A L n0 k cr)) = K (rS A L n0 (k + 1) [5, 3, 2, 1]) := by
  intro K
  obtain ⟨v0, v1, v2⟩ := rootV_inv A n0 hA k (by omega)
  have v3 := rootV_lt A n0 hA hA' (k := k) (by omega)
  have hv : rootV A n0 (k + 1) = if (rootV A n0 k + 2 ^ (n0 - 1 - k)) * (rootV A n0 k + 2 ^ (n0 - 1 - k)) ≤ A then rootV A n0 k + 2 ^ (n0 - 1 - k) else rootV A n0 k := rfl
  unfold rS
  rw [hv]
  generalize rootV A n0 k = v at *
  obtain ⟨n, hn'⟩ : ∃ n, n = n0 - 1 - k := ⟨_, rfl⟩
  rw [← hn']
  rw [show n0 - k = n + 1 by omega] at v2 ⊢
  have hs := set_bit2 v n (by omega) v0 v3 v2
  have p : (0 : Int) < 2 ^ n := Int.pow_pos (by decide)
  have hm := fun D => ev_sq D (v + 2 ^ n) (by omega) hs.2.2
  have hc := fun D => ev_lcmp' D ((v + 2 ^ n) * (v + 2 ^ n)) A (Int.mul_nonneg (by omega) (by omega)) hA
  have hfin : n0 - (k + 1) = n := by omega
  rw [hfin]
  by_cases h : n < 64
  · obtain ⟨s1, s2⟩ := hs.1 h
    rw [← s2] at hm
    have := root_lo D (A / 6277101735386680763835789423207666416102355444464034512896) (A / 340282366920938463463374607431768211456 % 18446744073709551616) (A / 18446744073709551616 % 18446744073709551616) (A % 18446744073709551616) L ((L : Int) + 1) (n0 : Int) (v / 18446744073709551616) (v % 18446744073709551616) _ _ _ n _ cr hcr h (by rw [Int.emod_emod]; exact s1) ⟨_, _, _, _, rfl⟩ hm hc (cmpI_le _ _) K
    rw [show ((n + 1 : Nat) : Int) = (n : Int) + 1 by omega, this]
    by_cases q : (v + 2 ^ n) * (v + 2 ^ n) ≤ A
    · simp only [q, decide_true, if_true, ← s2]
    · simp only [q, decide_false, if_false, Bool.false_eq_true]
  · obtain ⟨s1, s2⟩ := hs.2.1 (by omega)
    rw [← s1] at hm
    have := root_hi D (A / 6277101735386680763835789423207666416102355444464034512896) (A / 340282366920938463463374607431768211456 % 18446744073709551616) (A / 18446744073709551616 % 18446744073709551616) (A % 18446744073709551616) L ((L : Int) + 1) (n0 : Int) (v / 18446744073709551616) (v % 18446744073709551616) _ _ _ (n - 64) _ cr hcr (by omega) s2 ⟨_, _, _, _, rfl⟩ hm hc (cmpI_le _ _) K
    rw [show ((n - 64 : Nat) : Int) + 64 = (n : Int) by omega] at this
    rw [show ((n + 1 : Nat) : Int) = (n : Int) + 1 by omega, this]
    by_cases q : (v + 2 ^ n) * (v + 2 ^ n) ≤ A
    · simp only [q, decide_true, if_true, ← s1]
    · simp only [q, decide_false, if_false, Bool.false_eq_true]
theorem ev_lsqrt (D : Nat) (A : Int) (hA : 0 ≤ A) (hA' : A < 115792089237316195423570985008687907853269984665640564039457584007913129639936) : evFun T (D+4) 121 [fourV A] [] = some (.agg [.int .u64 (sqrtI A / 18446744073709551616), .int .u64 (sqrtI A % 18446744073709551616)], [], []) := by
  obtain ⟨a, ha⟩ : ∃ a, a = A / 6277101735386680763835789423207666416102355444464034512896 := ⟨_, rfl⟩
  obtain ⟨b, hb⟩ : ∃ b, b = A / 340282366920938463463374607431768211456 % 18446744073709551616 := ⟨_, rfl⟩
  obtain ⟨c, hc⟩ : ∃ c, c = A / 18446744073709551616 % 18446744073709551616 := ⟨_, rfl⟩
  obtain ⟨d, hd⟩ : ∃ d, d = A % 18446744073709551616 := ⟨_, rfl⟩
  have wa : inW a := by unfold inW; omega
  have wb : inW b := by unfold inW; omega
  have wc : inW c := by unfold inW; omega
  have wd : inW d := by unfold inW; omega
  have hlt := lenI_lt wa wb wc wd
  have hle := lenI_le wa wb wc wd
  have hlen := fun D => ev_len D a b c d wa wb wc wd
  have hAe : a * 6277101735386680763835789423207666416102355444464034512896 + b * 340282366920938463463374607431768211456 + c * 18446744073709551616 + d = A := by omega
  rw [hAe] at hlt
  obtain ⟨L, hL⟩ : ∃ L : Nat, L = (lenI a b c d).toNat := ⟨_, rfl⟩
  have hLi : lenI a b c d = (L : Int) := by omega
  rw [hLi] at hlen hle
  rw [← hL] at hlt
  obtain ⟨n0, hn0⟩ : ∃ n0 : Nat, n0 = (L + 1) / 2 := ⟨_, rfl⟩
  have hroot : rootV A n0 n0 = sqrtI A := by
    have h1 := rootV_go A n0 n0 (Nat.le_refl _)
    rw [Nat.sub_self] at h1
    have h2 : A < 2 ^ n0 * 2 ^ n0 := by
      rw [← Int.pow_add]
      have : (2 : Int) ^ L ≤ 2 ^ (n0 + n0) := pow_mono2 (by omega)
      omega
    rw [← sqrtGo_eq A n0 hA hA' h2, ← h1]; rfl
  have hloop := loop_k (call := evFun T (D+3)) (b := ir121_l0) (tr := ir121_t0) (bx := ir121_x0) (fun k => rS A L n0 k (if k = 0 then [3, 2, 1] else [5, 3, 2, 1])) n0
    (fun k hk K => by
      have := rS_round D A L n0 k (if k = 0 then [3, 2, 1] else [5, 3, 2, 1]) (by by_cases h : k = 0 <;> simp [h]) hk (by omega) hA hA' K
      simpa using this)
    (fun K => by
      have := root_exit D a b c d L ((L : Int) + 1) n0 (sqrtI A / 18446744073709551616) (sqrtI A % 18446744073709551616) (if n0 = 0 then [3, 2, 1] else [5, 3, 2, 1]) K
      simp only [rS, Nat.sub_self, hroot, ← ha, ← hb, ← hc, ← hd]
      exact this) 18446744073709551616 (by omega)
  have z : rootV A n0 0 = 0 := rfl
  simp only [rS, z, Nat.sub_zero, Int.zero_ediv, Int.zero_emod, if_true, ← ha, ← hb, ← hc, ← hd] at hloop
  have e1 : ((L : Int) + 1 + 9223372036854775808) % 18446744073709551616 - 9223372036854775808 = (L : Int) + 1 := by omega
  have e2 : (((L : Int) + 1).tdiv 2 + 9223372036854775808) % 18446744073709551616 - 9223372036854775808 = (n0 : Int) := by
    rw [Int.tdiv_eq_ediv_of_nonneg (by omega)]; omega
  unfold fourV
  rw [← ha, ← hb, ← hc, ← hd]
  simp only [rootS, St.put, up] at hloop
  clear hlt hle hAe hL hLi z hroot hn0
  generalize hcr : (if n0 = 0 then [3, 2, 1] else [5, 3, 2, 1]) = cr at hloop
  have hcr2 : cr = [3, 2, 1] ∨ cr = [5, 3, 2, 1] := by rw [← hcr]; split <;> simp
  clear hcr
  simp at hloop
  rcases hcr2 with rfl | rfl
  · rw [ev_fn T121]; simp (maxSteps := 2000000) [ir121, hlen, e1, e2, hloop]
  · rw [ev_fn T121]; simp (maxSteps := 2000000) [ir121, hlen, e1, e2, hloop]
end Go.Ab

namespace Go.Ab
attribute [local simp] runFn args0 e_skip e_reg regC_some e_seq seqC_n seqC_e seqC_r e_cond condC_t condC_f e_block e_loop e_exit e_ret nextC_n nextC_e nextC_r nextK_n nextK_e nextK_r evReg evOps evOp wants fp St.ev St.get St.set St.sets St.put St.apply St.pre preK inB lk up del hits V.cells V.cellsG allPlain Cell.plain pure1 keysOf okUn noK Ev.apart meets mkV splice fillC binC unC mmC eqCs eqC resVs resV one export1 V.keys V.keys1 outKeys valsKeys cellsKeys Cell.keys Blk.keys elsKeys fpCall fpCallG noTup reach getAll outW newW names srcs capsOf onesOf slB rowsOf V.ren V.ren1 Cell.ren Loc.ren locsRen Blk.ren inR outR place nm St.sweep swept St.kill killR lmap delAll St.trim reachL expR ownGet b2i_le wrap_u64 wrap_i64 bits_u64 bits_i64 or_u64 and_u64 Int.fdiv_eq_ediv_of_nonneg word mmC hits
theorem ev_more0 (D : Nat) (n : Int) (hn : 0 ≤ n ∧ n < 57896044618658097711785492504343953926634992332820282019728792003956564819968) : evFun T (D+3) 119 [fourV n, .c (.int .i64 0)] [] = some (fourV (n + 1), [], []) := by
  have hw := ev_wide (D+1) 0 1
  have hs := ev_shl0 D
  have h1 := ev_add' (D+1) (h1 := n / 18446744073709551616 % 18446744073709551616) (l1 := n % 18446744073709551616) (h2 := 0) (l2 := 1) (n % 340282366920938463463374607431768211456) 1 (by unfold inTwo; omega) (by unfold inTwo; omega) (by omega) (by omega) (by omega) (by omega)
  have h2 := ev_add' (D+1) (h1 := n / 6277101735386680763835789423207666416102355444464034512896) (l1 := n / 340282366920938463463374607431768211456 % 18446744073709551616) (h2 := 0) (l2 := 0) (n / 340282366920938463463374607431768211456) 0 (by unfold inTwo; omega) (by unfold inTwo; omega) (by omega) (by omega) (by omega) (by omega)
  have h3 := ev_add' (D+1) (h1 := n / 6277101735386680763835789423207666416102355444464034512896) (l1 := n / 340282366920938463463374607431768211456 % 18446744073709551616) (h2 := 0) (l2 := 1) (n / 340282366920938463463374607431768211456) 1 (by unfold inTwo; omega) (by unfold inTwo; omega) (by omega) (by omega) (by omega) (by omega)
  have e2 : (n / 340282366920938463463374607431768211456 + 0) % 340282366920938463463374607431768211456 / 18446744073709551616 = n / 6277101735386680763835789423207666416102355444464034512896 := by omega
  have e3 : (n / 340282366920938463463374607431768211456 + 0) % 340282366920938463463374607431768211456 % 18446744073709551616 = n / 340282366920938463463374607431768211456 % 18446744073709551616 := by omega
  simp only [twoV, e2, e3] at h1 h2 h3
  by_cases h : 340282366920938463463374607431768211456 ≤ n % 340282366920938463463374607431768211456 + 1
  · have e : decide (340282366920938463463374607431768211456 ≤ n % 340282366920938463463374607431768211456 + 1) = true := by simpa using h
    rw [e] at h1
    unfold fourV
    rw [ev_fn T119]; simp (maxSteps := 2000000) [ir119, hw, hs, h1, h2, h3]
    omega
  · have e : decide (340282366920938463463374607431768211456 ≤ n % 340282366920938463463374607431768211456 + 1) = false := by simpa using h
    rw [e] at h1
    unfold fourV
    rw [ev_fn T119]; simp (maxSteps := 2000000) [ir119, hw, hs, h1, h2, h3]
    omega
theorem div_half (A b : Int) (hA : 0 ≤ A) (hb : 0 < b) : (A * 36893488147419103232 + b) / (2 * b) = if b - A * 18446744073709551616 % b ≤ A * 18446744073709551616 % b then A * 18446744073709551616 / b + 1 else A * 18446744073709551616 / b := by
  have e : A * 36893488147419103232 = 2 * (A * 18446744073709551616) := by omega
  rw [e]
  have h0 : 0 ≤ A * 18446744073709551616 := by omega
  generalize A * 18446744073709551616 = x at *
  have d := Int.emod_add_mul_ediv x b
  have p := Int.emod_nonneg x (show b ≠ 0 by omega)
  have l := Int.emod_lt_of_pos x hb
  generalize x % b = r at *
  generalize x / b = q at *
  have e2 : 2 * (b * q) = 2 * b * q := by rw [Int.mul_assoc]
  split
  · have := (Int.ediv_emod_unique (a := 2 * x + b) (b := 2 * b) (r := 2 * r - b) (q := q + 1) (by omega)).2 ⟨by rw [Int.mul_add]; omega, by omega, by omega⟩
    exact this.1
  · have := (Int.ediv_emod_unique (a := 2 * x + b) (b := 2 * b) (r := 2 * r + b) (q := q) (by omega)).2 ⟨by omega, by omega, by omega⟩
    exact this.1
theorem fv_of {h l : Int} (k : okF h l) (D : Nat) : evFun T (D+2) 112 [.agg [.int .i64 h, .int .u64 l]] [] = some (.agg [.int .u64 (absI (fv h l) / 18446744073709551616), .int .u64 (absI (fv h l) % 18446744073709551616), .bool (decide (fv h l < 0))], [], []) := by
  have := ev_of D (fv h l) (okF_fv k)
  simpa only [fixV, sizeV, fv_hi k, fv_lo k] using this
theorem abs_fv {h l : Int} (k : okF h l) : 0 ≤ absI (fv h l) ∧ absI (fv h l) ≤ 170141183460469231731687303715884105728 := by
  have := okF_fv k
  exact ⟨absI_nonneg _, absI_le (by omega)⟩
theorem inW_of_lt {x : Int} (h0 : 0 ≤ x) (h : x < 340282366920938463463374607431768211456) : inW (x / 18446744073709551616) ∧ inW (x % 18446744073709551616) := by unfold inW; omega
theorem E_div0 (D : Nat) {h1 l1 h2 l2 : Int} (k1 : okF h1 l1) (k2 : okF h2 l2) (hz : fv h2 l2 = 0) : evFun T (D+4) 64 [.agg [.int .i64 h1, .int .u64 l1], .agg [.int .i64 h2, .int .u64 l2]] [] =
    some (.tup [.agg [.int .i64 0, .int .u64 0], .c (.int .i64 2)], [], []) := by
  have x := fv_of k1 (D+1)
  have y := fv_of k2 (D+1)
  have bx := abs_fv k1
  rw [hz] at y
  have y0 : absI 0 = 0 := rfl
  rw [y0] at y
  have w := inW_of_lt bx.1 (by omega)
  have h3 := ev_shl64 (D+1) 0 0 (absI (fv h1 l1) / 18446744073709551616) (absI (fv h1 l1) % 18446744073709551616) (by unfold inW; omega) (by unfold inW; omega) w.1 w.2
  have h4 := ev_ldiv0 D 0 (absI (fv h1 l1) / 18446744073709551616) (absI (fv h1 l1) % 18446744073709551616) 0
  rw [ev_fn T64]; simp (maxSteps := 2000000) [ir64, x, y, ev_wide, h3, h4]
theorem E_div1 (D : Nat) {h1 l1 h2 l2 : Int} (k1 : okF h1 l1) (k2 : okF h2 l2) (hz : fv h2 l2 ≠ 0) : evFun T (D+4) 64 [.agg [.int .i64 h1, .int .u64 l1], .agg [.int .i64 h2, .int .u64 l2]] [] =
    some (.tup [.agg [.int .i64 (fitN (divI (fv h1 l1) (fv h2 l2)) / 18446744073709551616), .int .u64 (fitN (divI (fv h1 l1) (fv h2 l2)) % 18446744073709551616)], .c (.int .i64 (fitE (divI (fv h1 l1) (fv h2 l2))))], [], []) := by
  have x := fv_of k1 (D+1)
  have y := fv_of k2 (D+1)
  have bx := abs_fv k1
  have bb := abs_fv k2
  have hb : 0 < absI (fv h2 l2) := by have := absI_zero (a := fv h2 l2); have := bb.1; omega
  have hdv : divI (fv h1 l1) (fv h2 l2) = signI (!(decide (fv h1 l1 < 0) == decide (fv h2 l2 < 0))) ((absI (fv h1 l1) * 36893488147419103232 + absI (fv h2 l2)) / (2 * absI (fv h2 l2))) := rfl
  rw [div_half _ _ bx.1 hb] at hdv
  generalize divI (fv h1 l1) (fv h2 l2) = Z at *
  generalize decide (fv h1 l1 < 0) = s1 at *
  generalize decide (fv h2 l2 < 0) = s2 at *
  generalize absI (fv h1 l1) = A at *
  generalize absI (fv h2 l2) = B at *
  have w := inW_of_lt bx.1 (by omega)
  have h3 := ev_shl64 (D+1) 0 0 (A / 18446744073709551616) (A % 18446744073709551616) (by unfold inW; omega) (by unfold inW; omega) w.1 w.2
  have h4 := ev_ldiv D (A * 18446744073709551616) B (by omega) (by omega) hb (by omega)
  have f : fourV (A * 18446744073709551616) = .agg [.int .u64 0, .int .u64 (A / 18446744073709551616), .int .u64 (A % 18446744073709551616), .int .u64 0] := by
    unfold fourV
    rw [show A * 18446744073709551616 / 6277101735386680763835789423207666416102355444464034512896 = 0 by omega, show A * 18446744073709551616 / 340282366920938463463374607431768211456 % 18446744073709551616 = A / 18446744073709551616 by omega, show A * 18446744073709551616 / 18446744073709551616 % 18446744073709551616 = A % 18446744073709551616 by omega, show A * 18446744073709551616 % 18446744073709551616 = 0 by omega]
  rw [f] at h4
  have q0 : 0 ≤ A * 18446744073709551616 / B := Int.ediv_nonneg (by omega) (by omega)
  have q1 := Int.ediv_le_self B (show 0 ≤ A * 18446744073709551616 by omega)
  have r0 := Int.emod_nonneg (A * 18446744073709551616) (show B ≠ 0 by omega)
  have r1 := Int.emod_lt_of_pos (A * 18446744073709551616) hb
  generalize A * 18446744073709551616 / B = Q at *
  generalize A * 18446744073709551616 % B = R at *
  have h5 := ev_sub' (D+2) (h1 := B / 18446744073709551616) (l1 := B % 18446744073709551616) (h2 := R / 18446744073709551616) (l2 := R % 18446744073709551616) B R (by unfold inTwo; omega) (by unfold inTwo; omega) rfl rfl rfl rfl
  rw [show (B - R) % 340282366920938463463374607431768211456 = B - R by omega] at h5
  have wr := inW_of_lt r0 (by omega)
  have wb := inW_of_lt (x := B - R) (by omega) (by omega)
  have h6 := ev_lcmp D 0 0 (R / 18446744073709551616) (R % 18446744073709551616) 0 0 ((B - R) / 18446744073709551616) ((B - R) % 18446744073709551616) (by unfold inW; omega) wr.1 wr.2 (by unfold inW; omega) wb.1 wb.2
  rw [show ((0 * 18446744073709551616 + 0) * 18446744073709551616 + R / 18446744073709551616) * 18446744073709551616 + R % 18446744073709551616 = R by omega, show ((0 * 18446744073709551616 + 0) * 18446744073709551616 + (B - R) / 18446744073709551616) * 18446744073709551616 + (B - R) % 18446744073709551616 = B - R by omega] at h6
  by_cases hc : B - R ≤ R
  · have e : decide (0 ≤ cmpI R (B - R)) = true := by unfold cmpI; repeat' split <;> simp <;> omega
    have h7 := ev_more0 D Q (by omega)
    have h8 := ev_told D (Q + 1) (!(s1 == s2)) (by omega)
    rw [toldV_fit _ (by omega)] at h8
    rw [if_pos hc] at hdv
    rw [← hdv] at h8
    simp only [fourV, twoV] at h4 h5 h7 h8
    clear hdv bx bb f w q0 q1 r0 r1 wr wb
    rw [ev_fn T64]; simp (maxSteps := 2000000) [ir64, x, y, ev_wide, h3, h4, h5, h6, e, h7, h8]
  · have e : decide (0 ≤ cmpI R (B - R)) = false := by unfold cmpI; repeat' split <;> simp <;> omega
    have h8 := ev_told D Q (!(s1 == s2)) (by omega)
    rw [toldV_fit _ (by omega)] at h8
    rw [if_neg hc] at hdv
    rw [← hdv] at h8
    simp only [fourV, twoV] at h4 h5 h8
    clear hdv bx bb f w q0 q1 r0 r1 wr wb
    rw [ev_fn T64]; simp (maxSteps := 2000000) [ir64, x, y, ev_wide, h3, h4, h5, h6, e, h8]
theorem E_div (D : Nat) {h1 l1 h2 l2 : Int} (k1 : okF h1 l1) (k2 : okF h2 l2) : evFun T (D+4) 64 [.agg [.int .i64 h1, .int .u64 l1], .agg [.int .i64 h2, .int .u64 l2]] [] =
    some (.tup [.agg [.int .i64 (fitN (divI (fv h1 l1) (fv h2 l2)) / 18446744073709551616), .int .u64 (fitN (divI (fv h1 l1) (fv h2 l2)) % 18446744073709551616)], .c (.int .i64 (divE (fv h1 l1) (fv h2 l2)))], [], []) := by
  by_cases h : fv h2 l2 = 0
  · rw [E_div0 D k1 k2 h, h]
    unfold divE
    rw [divI_zero, fit_zero.1]; rfl
  · rw [E_div1 D k1 k2 h]
    unfold divE
    rw [if_neg h]
theorem E_sqrt (D : Nat) {h1 l1 : Int} (k1 : okM h1 l1) : evFun T (D+5) 63 [.agg [.int .i64 h1, .int .u64 l1]] [] =
    some (.tup [.agg [.int .i64 (rootI (fv h1 l1) / 18446744073709551616), .int .u64 (rootI (fv h1 l1) % 18446744073709551616)], .c (.int .i64 (rootE (fv h1 l1)))], [], []) := by
  have x := fv_of k1.f (D+2)
  have b := okM_fv k1
  by_cases h : fv h1 l1 < 0
  · have e : decide (fv h1 l1 < 0) = true := by simpa using h
    rw [e] at x
    unfold rootI rootE
    rw [if_pos h, if_pos h]
    rw [ev_fn T63]; simp (maxSteps := 2000000) [ir63, x]
  · have e : decide (fv h1 l1 < 0) = false := by simpa using h
    rw [e, absI_of (by omega)] at x
    unfold rootI rootE
    rw [if_neg h, if_neg h]
    generalize fv h1 l1 = A at *
    have w := inW_of_lt (x := A) (by omega) (by omega)
    have h3 := ev_shl64 (D+2) 0 0 (A / 18446744073709551616) (A % 18446744073709551616) (by unfold inW; omega) (by unfold inW; omega) w.1 w.2
    have f : fourV (A * 18446744073709551616) = .agg [.int .u64 0, .int .u64 (A / 18446744073709551616), .int .u64 (A % 18446744073709551616), .int .u64 0] := by
      unfold fourV
      rw [show A * 18446744073709551616 / 6277101735386680763835789423207666416102355444464034512896 = 0 by omega, show A * 18446744073709551616 / 340282366920938463463374607431768211456 % 18446744073709551616 = A / 18446744073709551616 by omega, show A * 18446744073709551616 / 18446744073709551616 % 18446744073709551616 = A % 18446744073709551616 by omega, show A * 18446744073709551616 % 18446744073709551616 = 0 by omega]
    have h4 := ev_lsqrt D (A * 18446744073709551616) (by omega) (by omega)
    rw [f] at h4
    have s0 := (sqrtI_spec (A * 18446744073709551616) (by omega) (by omega)).1
    have s1 := sqrtI_lt (a := A * 18446744073709551616) (r := 79228162514264337593543950336) (by omega) (by omega) (by omega) (by omega)
    generalize sqrtI (A * 18446744073709551616) = S at *
    have h5 := ev_told_ok (D+1) S false (by omega)
    simp only [fixV] at h5
    clear s0 s1 f w b
    rw [ev_fn T63]; simp (maxSteps := 2000000) [ir63, x, ev_wide, h3, h4, h5]
end Go.Ab

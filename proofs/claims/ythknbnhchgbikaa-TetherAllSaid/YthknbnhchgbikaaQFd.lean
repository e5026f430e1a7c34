/- Words for this claim: an evaluator of the program's functions, and what they come to. -/
import Derived.Test.YthknbnhchgbikaaQFc
set_option linter.all false
namespace Go.Ab
attribute [local simp] runFn args0 e_skip e_reg regC_some e_seq seqC_n seqC_e seqC_r e_cond condC_t condC_f e_block e_loop e_exit e_ret nextC_n nextC_e nextC_r nextK_n nextK_e nextK_r evReg evOps evOp wants fp St.ev St.get St.set St.sets St.put St.apply St.pre preK inB lk up del hits V.cells V.cellsG allPlain Cell.plain pure1 keysOf okUn noK Ev.apart meets mkV splice fillC binC unC mmC eqCs eqC resVs resV one export1 V.keys V.keys1 outKeys valsKeys cellsKeys Cell.keys Blk.keys elsKeys fpCall fpCallG noTup reach getAll outW newW names srcs capsOf onesOf slB rowsOf V.ren V.ren1 Cell.ren Loc.ren locsRen Blk.ren inR outR place nm St.sweep swept St.kill killR lmap delAll St.trim reachL expR ownGet b2i_le wrap_u64 wrap_i64 bits_u64 bits_i64 or_u64 and_u64 Int.fdiv_eq_ediv_of_nonneg word mmC hits
def divS (a b c d e f t21 t22 N rh rl q0 q1 q2 q3 : Int) (cr : List Nat) : St :=
  { env := [(0, .agg [.int .u64 a, .int .u64 b, .int .u64 c, .int .u64 d]), (1, .agg [.int .u64 e, .int .u64 f]), (2, .c (.ptr { k := Key.l 2, i := 0, o := 0 })), (3, .c (.ptr { k := Key.l 3, i := 0, o := 0 })), (4, .c (.ptr { k := Key.l 4, i := 0, o := 0 })), (5, .c (.ptr { k := Key.l 5, i := 0, o := 0 })), (6, .c (.bool false)), (13, .agg [.int .u64 e, .int .u64 f]), (14, .agg [.int .u64 0, .int .u64 0]), (15, .c (.bool false)), (18, .agg [.int .u64 a, .int .u64 b, .int .u64 c, .int .u64 d]), (19, .agg [.int .u64 d, .int .u64 c, .int .u64 b, .int .u64 a]), (7, .c (.ptr { k := Key.l 7, i := 0, o := 0 })), (8, .c (.ptr { k := Key.l 8, i := 0, o := 0 })), (20, .agg [.int .u64 a, .int .u64 b, .int .u64 c, .int .u64 d]), (21, .c (.int .i64 t21)), (22, .c (.int .i64 t22)), (9, .c (.int .i64 N))],
    loc := [(2, { T := 181, sz := 4, own := true, pl := true, els := [[.int .u64 a, .int .u64 b, .int .u64 c, .int .u64 d]] }), (3, { T := 108, sz := 2, own := true, pl := true, els := [[.int .u64 e, .int .u64 f]] }), (4, { T := 181, sz := 4, own := true, pl := true, els := [[.int .u64 0, .int .u64 0, .int .u64 0, .int .u64 0]] }), (5, { T := 108, sz := 2, own := true, pl := true, els := [[.int .u64 rh, .int .u64 rl]] }), (7, { T := 218, sz := 4, own := true, pl := true, els := [[.int .u64 d, .int .u64 c, .int .u64 b, .int .u64 a]] }), (8, { T := 218, sz := 4, own := true, pl := true, els := [[.int .u64 q0, .int .u64 q1, .int .u64 q2, .int .u64 q3]] })],
    out := [], cr := cr }

set_option maxHeartbeats 8000000 in
theorem div_round (D : Nat) (a b c d e f t21 t22 N rh rl q0 q1 q2 q3 B : Int) (cr : List Nat) (i m : Nat) (hcr : cr = [8, 7, 5, 4, 3, 2] ∨ cr = [11, 8, 7, 5, 4, 3, 2]) (h0 : (0 : Int) ≤ N) (hN : N < 256) (h1 : N.tdiv 64 = i) (h2 : N.tmod 64 = m) (hi : i < 4) (hm : m < 64)
    (hb : ∀ D, evFun T (D+1) 164 [.agg [.int .u64 d, .int .u64 c, .int .u64 b, .int .u64 a], .c (.int .i64 N)] [] = some (.c (.int .u64 B), [], []))
    (R H X Y : Int) (u t : Bool) (hn : decide (0 < rh / 9223372036854775808) = u) (hR : orI (rh * 2 % 18446744073709551616) (rl / 9223372036854775808 % 18446744073709551616) = R) (hH : orI (rl * 2 % 18446744073709551616) (B % 18446744073709551616) = H)
    (hs : ∀ D, evFun T (D+1) 116 [.agg [.int .u64 R, .int .u64 H], .agg [.int .u64 e, .int .u64 f]] [] = some (.tup [.agg [.int .u64 X, .int .u64 Y], .c (.bool t)], [], [])) (x : Int) (hx : x = orI (pick4 i q0 q1 q2 q3 % 18446744073709551616) (2 ^ m % 18446744073709551616)) :
    ∀ K, nextK K ir123_t0 ir123_x0 (evCode (evFun T (D+2)) ir123_l0 (divS a b c d e f t21 t22 N rh rl q0 q1 q2 q3 cr)) =
      K (if u || !t then divS a b c d e f t21 t22 (N - 1) X Y (if i = 0 then x else q0) (if i = 1 then x else q1) (if i = 2 then x else q2) (if i = 3 then x else q3) [11, 8, 7, 5, 4, 3, 2] else divS a b c d e f t21 t22 (N - 1) R H q0 q1 q2 q3 [11, 8, 7, 5, 4, 3, 2]) := by
  intro K
  have e3 := small_wrap hi
  have e4 := min_m hm
  have e6 : i + 1 ≤ 4 := by omega
  have e7 : (i : Int) < 4 := by omega
  have e8 : (N - 1 + 9223372036854775808) % 18446744073709551616 - 9223372036854775808 = N - 1 := by omega
  rcases hcr with rfl | rfl <;> cases u <;> cases t <;>
  simp (maxSteps := 2000000) [divS, ir123_l0, ir123_t0, ir123_x0, h0, h1, h2, hb, hn, hs, hR, hH, e3, e4, e6, e7, e8, take4, put4', hi, ← hx]
theorem div_exit (D : Nat) (a b c d e f t21 t22 rh rl q0 q1 q2 q3 : Int) (cr : List Nat) :
    ∀ K, nextK K ir123_t0 ir123_x0 (evCode (evFun T (D+2)) ir123_l0 (divS a b c d e f t21 t22 (-1) rh rl q0 q1 q2 q3 cr)) =
      some (.exit 0, ((divS a b c d e f t21 t22 (-1) rh rl q0 q1 q2 q3 cr).put (some 23) (.c (.int .i64 (-1)))).put (some 24) (.c (.bool false))) := by
  intro K
  simp [divS, ir123_l0, ir123_t0, ir123_x0]
end Go.Ab

namespace Go.Ab
attribute [local simp] runFn args0 e_skip e_reg regC_some e_seq seqC_n seqC_e seqC_r e_cond condC_t condC_f e_block e_loop e_exit e_ret nextC_n nextC_e nextC_r nextK_n nextK_e nextK_r evReg evOps evOp wants fp St.ev St.get St.set St.sets St.put St.apply St.pre preK inB lk up del hits V.cells V.cellsG allPlain Cell.plain pure1 keysOf okUn noK Ev.apart meets mkV splice fillC binC unC mmC eqCs eqC resVs resV one export1 V.keys V.keys1 outKeys valsKeys cellsKeys Cell.keys Blk.keys elsKeys fpCall fpCallG noTup reach getAll outW newW names srcs capsOf onesOf slB rowsOf V.ren V.ren1 Cell.ren Loc.ren locsRen Blk.ren inR outR place nm St.sweep swept St.kill killR lmap delAll St.trim reachL expR ownGet b2i_le wrap_u64 wrap_i64 bits_u64 bits_i64 or_u64 and_u64 Int.fdiv_eq_ediv_of_nonneg word mmC hits
theorem lt_blen (n : Int) (h : 0 ≤ n) : n < 2 ^ (blen n).toNat := by
  unfold blen
  split
  · have : n = 0 := by omega
    subst this; simp
  · have := @Nat.lt_log2_self n.toNat
    rw [show ((Nat.log2 n.toNat : Int) + 1).toNat = Nat.log2 n.toNat + 1 by omega]
    have e : ((2 ^ (Nat.log2 n.toNat + 1) : Nat) : Int) = 2 ^ (Nat.log2 n.toNat + 1) := by push_cast; rfl
    omega
theorem pow_add64 (x : Int) (k : Nat) (hx : 0 ≤ x) : (2 : Int) ^ (64 * k + x.toNat) = 2 ^ (64 * k) * 2 ^ x.toNat := Int.pow_add ..
theorem lenI_lt {a b c d : Int} (ha : inW a) (hb : inW b) (hc : inW c) (hd : inW d) : a * 6277101735386680763835789423207666416102355444464034512896 + b * 340282366920938463463374607431768211456 + c * 18446744073709551616 + d < 2 ^ (lenI a b c d).toNat := by
  have pa := lt_blen a ha.1; have pb := lt_blen b hb.1; have pc := lt_blen c hc.1; have pd := lt_blen d hd.1
  have qa := blen_nonneg a; have qb := blen_nonneg b; have qc := blen_nonneg c; have qd := blen_nonneg d
  unfold inW at ha hb hc hd
  unfold lenI
  split
  · rw [show (192 + blen a).toNat = 64 * 3 + (blen a).toNat by omega, pow_add64 _ 3 qa, show (2 : Int) ^ (64 * 3) = 6277101735386680763835789423207666416102355444464034512896 from rfl]
    omega
  · split
    · rw [show (128 + blen b).toNat = 64 * 2 + (blen b).toNat by omega, pow_add64 _ 2 qb, show (2 : Int) ^ (64 * 2) = 340282366920938463463374607431768211456 from rfl]
      omega
    · split
      · rw [show (64 + blen c).toNat = 64 * 1 + (blen c).toNat by omega, pow_add64 _ 1 qc, show (2 : Int) ^ (64 * 1) = 18446744073709551616 from rfl]
        omega
      · omega
theorem tdiv_nat (n : Nat) : ((n : Int)).tdiv 64 = ((n / 64 : Nat) : Int) := (Int.ofNat_tdiv n 64).symm
theorem tmod_nat (n : Nat) : ((n : Int)).tmod 64 = ((n % 64 : Nat) : Int) := (Int.ofNat_tmod n 64).symm
/-- The state ahead of a round: so many bits are left. -/
def dS (A B t21 t22 : Int) (n1 : Nat) (cr : List Nat) : St :=
  divS (A / 6277101735386680763835789423207666416102355444464034512896) (A / 340282366920938463463374607431768211456 % 18446744073709551616) (A / 18446744073709551616 % 18446744073709551616) (A % 18446744073709551616) (B / 18446744073709551616) (B % 18446744073709551616) t21 t22 ((n1 : Int) - 1)
    (A / 2 ^ n1 % B / 18446744073709551616) (A / 2 ^ n1 % B % 18446744073709551616) (A / 2 ^ n1 / B * 2 ^ n1 % 18446744073709551616) (A / 2 ^ n1 / B * 2 ^ n1 / 18446744073709551616 % 18446744073709551616) (A / 2 ^ n1 / B * 2 ^ n1 / 340282366920938463463374607431768211456 % 18446744073709551616) (A / 2 ^ n1 / B * 2 ^ n1 / 6277101735386680763835789423207666416102355444464034512896) cr
theorem q_le (A B : Int) (n : Nat) (hA : 0 ≤ A) (hB : 0 < B) : 0 ≤ A / 2 ^ n / B * 2 ^ n ∧ A / 2 ^ n / B * 2 ^ n ≤ A := by
  have p : (0 : Int) < 2 ^ n := Int.pow_pos (by decide)
  have h1 : 0 ≤ A / 2 ^ n := Int.ediv_nonneg hA (by omega)
  have h2 := Int.ediv_le_self (B) h1
  have h3 : 0 ≤ A / 2 ^ n / B := Int.ediv_nonneg h1 (by omega)
  have h4 := Int.ediv_mul_le A (show (2 : Int) ^ n ≠ 0 by omega)
  exact ⟨Int.mul_nonneg h3 (by omega), Int.le_trans (Int.mul_le_mul_of_nonneg_right h2 (by omega)) h4⟩
theorem dS_round (D : Nat) (A B t21 t22 : Int) (n : Nat) (cr : List Nat) (hcr : cr = [8, 7, 5, 4, 3, 2] ∨ cr = [11, 8, 7, 5, 4, 3, 2]) (hn : n < 256) (hA : 0 ≤ A) (hA' : A < 115792089237316195423570985008687907853269984665640564039457584007913129639936) (hB : 0 < B) (hB' : B < 340282366920938463463374607431768211456) :
    ∀ K, nextK K ir123_t0 ir123_x0 (evCode (evFun T (D+2)) ir123_l0 (dS A B t21 t22 (n + 1) cr)) = K (dS A B t21 t22 n [11, 8, 7, 5, 4, 3, 2]) := by
  intro K
  have hi : n / 64 < 4 := by omega
  have hm : n % 64 < 64 := by omega
  have hnn : n = 64 * (n / 64) + n % 64 := by omega
  have hN : ((n + 1 : Nat) : Int) - 1 = (n : Int) := by omega
  have r0 := Int.emod_nonneg (A / 2 ^ (n + 1)) (show B ≠ 0 by omega)
  have r1 := Int.emod_lt_of_pos (A / 2 ^ (n + 1)) hB
  have hst := div_step A B n hA hB
  have hpb := pick_bit A (n / 64) (n % 64) n hi hm hnn hA' hA
  have hbit : ∀ D, evFun T (D+1) 164 [.agg [.int .u64 (A % 18446744073709551616), .int .u64 (A / 18446744073709551616 % 18446744073709551616), .int .u64 (A / 340282366920938463463374607431768211456 % 18446744073709551616), .int .u64 (A / 6277101735386680763835789423207666416102355444464034512896)], .c (.int .i64 (n : Int))] [] = some (.c (.int .u64 (A / 2 ^ n % 2)), [], []) := by
    intro D
    rw [ev_bit D n _ _ _ _ (n / 64) (n % 64) (tdiv_nat n) (tmod_nat n) hi hm (by unfold inW; omega) (by unfold inW; omega) (by unfold inW; omega) (by unfold inW; omega), hpb]
  have ht : 0 ≤ A / 2 ^ n % 2 ∧ A / 2 ^ n % 2 ≤ 1 := by omega
  have hq := q_le A B (n + 1) hA hB
  have hQd : A / 2 ^ (n + 1) / B * 2 ^ (n + 1) % 2 ^ (n + 1) = 0 := Int.mul_emod_left ..
  have hsb := set_bit (A / 2 ^ (n + 1) / B * 2 ^ (n + 1)) (n / 64) (n % 64) n hi hm hnn hq.1 (by omega) hQd _ rfl
  have hw := div_words (A / 2 ^ (n + 1) % B) B (A / 2 ^ n % 2) r0 r1 hB' ht
  have hs := fun D => ev_sub' D (h1 := (2 * (A / 2 ^ (n + 1) % B) + A / 2 ^ n % 2) % 340282366920938463463374607431768211456 / 18446744073709551616) (l1 := (2 * (A / 2 ^ (n + 1) % B) + A / 2 ^ n % 2) % 340282366920938463463374607431768211456 % 18446744073709551616) (h2 := B / 18446744073709551616) (l2 := B % 18446744073709551616) ((2 * (A / 2 ^ (n + 1) % B) + A / 2 ^ n % 2) % 340282366920938463463374607431768211456) B (by unfold inTwo; omega) (by unfold inTwo; omega) rfl rfl rfl rfl
  have key := div_round D (A / 6277101735386680763835789423207666416102355444464034512896) (A / 340282366920938463463374607431768211456 % 18446744073709551616) (A / 18446744073709551616 % 18446744073709551616) (A % 18446744073709551616) (B / 18446744073709551616) (B % 18446744073709551616) t21 t22 n
    (A / 2 ^ (n + 1) % B / 18446744073709551616) (A / 2 ^ (n + 1) % B % 18446744073709551616) (A / 2 ^ (n + 1) / B * 2 ^ (n + 1) % 18446744073709551616) (A / 2 ^ (n + 1) / B * 2 ^ (n + 1) / 18446744073709551616 % 18446744073709551616) (A / 2 ^ (n + 1) / B * 2 ^ (n + 1) / 340282366920938463463374607431768211456 % 18446744073709551616) (A / 2 ^ (n + 1) / B * 2 ^ (n + 1) / 6277101735386680763835789423207666416102355444464034512896) (A / 2 ^ n % 2) cr (n / 64) (n % 64) hcr (by omega) (by omega) (tdiv_nat n) (tmod_nat n) hi hm hbit _ _ _ _ _ _ rfl hw.1 hw.2 hs _ rfl K
  unfold dS
  rw [hN, key, hsb.1, hsb.2.1, hsb.2.2.1, hsb.2.2.2.1]
  have e2 : A / 2 ^ (n + 1) / B * 2 ^ (n + 1) = 2 * (A / 2 ^ (n + 1) / B) * 2 ^ n := by rw [Int.pow_succ, Int.mul_comm (2 ^ n) 2, ← Int.mul_assoc, Int.mul_comm _ 2]
  clear key hsb hs hw hq hQd hbit hpb
  generalize A / 2 ^ (n + 1) % B = r at *
  generalize A / 2 ^ n % 2 = t at *
  by_cases h : B ≤ 2 * r + t
  · rw [if_pos]
    · obtain ⟨s1, s2⟩ := hst.2.2 h
      rw [s1, s2]
      have e3 : ((2 * r + t) % 340282366920938463463374607431768211456 - B) % 340282366920938463463374607431768211456 = 2 * r + t - B := by omega
      have e4 : A / 2 ^ (n + 1) / B * 2 ^ (n + 1) + 2 ^ n = (2 * (A / 2 ^ (n + 1) / B) + 1) * 2 ^ n := by rw [e2, Int.add_mul, Int.one_mul]
      rw [e3, e4]
    · simp only [Bool.or_eq_true, decide_eq_true_eq, Bool.not_eq_true', decide_eq_false_iff_not]
      omega
  · rw [if_neg]
    · obtain ⟨s1, s2⟩ := hst.2.1 (by omega)
      rw [s1, s2]
      have e3 : (2 * r + t) % 340282366920938463463374607431768211456 = 2 * r + t := by omega
      rw [e3, e2]
    · simp only [Bool.or_eq_true, decide_eq_true_eq, Bool.not_eq_true', decide_eq_false_iff_not]
      omega
end Go.Ab

namespace Go.Ab
attribute [local simp] runFn args0 e_skip e_reg regC_some e_seq seqC_n seqC_e seqC_r e_cond condC_t condC_f e_block e_loop e_exit e_ret nextC_n nextC_e nextC_r nextK_n nextK_e nextK_r evReg evOps evOp wants fp St.ev St.get St.set St.sets St.put St.apply St.pre preK inB lk up del hits V.cells V.cellsG allPlain Cell.plain pure1 keysOf okUn noK Ev.apart meets mkV splice fillC binC unC mmC eqCs eqC resVs resV one export1 V.keys V.keys1 outKeys valsKeys cellsKeys Cell.keys Blk.keys elsKeys fpCall fpCallG noTup reach getAll outW newW names srcs capsOf onesOf slB rowsOf V.ren V.ren1 Cell.ren Loc.ren locsRen Blk.ren inR outR place nm St.sweep swept St.kill killR lmap delAll St.trim reachL expR ownGet b2i_le wrap_u64 wrap_i64 bits_u64 bits_i64 or_u64 and_u64 Int.fdiv_eq_ediv_of_nonneg word mmC hits
theorem ev_ldiv0 (D : Nat) (a b c d : Int) : evFun T (D+3) 123 [.agg [.int .u64 a, .int .u64 b, .int .u64 c, .int .u64 d], .agg [.int .u64 0, .int .u64 0]] [] = some (.tup [.agg [.int .u64 0, .int .u64 0, .int .u64 0, .int .u64 0], .agg [.int .u64 0, .int .u64 0], .c (.bool false)], [], []) := by
  rw [ev_fn T123]; simp (maxSteps := 2000000) [ir123]
theorem ev_ldiv (D : Nat) (A B : Int) (hA : 0 ≤ A) (hA' : A < 115792089237316195423570985008687907853269984665640564039457584007913129639936) (hB : 0 < B) (hB' : B < 340282366920938463463374607431768211456) :
    evFun T (D+3) 123 [fourV A, .agg [.int .u64 (B / 18446744073709551616), .int .u64 (B % 18446744073709551616)]] [] =
      some (.tup [fourV (A / B), .agg [.int .u64 (A % B / 18446744073709551616), .int .u64 (A % B % 18446744073709551616)], .c (.bool true)], [], []) := by
  obtain ⟨a, ha⟩ : ∃ a, a = A / 6277101735386680763835789423207666416102355444464034512896 := ⟨_, rfl⟩
  obtain ⟨b, hb⟩ : ∃ b, b = A / 340282366920938463463374607431768211456 % 18446744073709551616 := ⟨_, rfl⟩
  obtain ⟨c, hc⟩ : ∃ c, c = A / 18446744073709551616 % 18446744073709551616 := ⟨_, rfl⟩
  obtain ⟨d, hd⟩ : ∃ d, d = A % 18446744073709551616 := ⟨_, rfl⟩
  have wa : inW a := by unfold inW; omega
  have wb : inW b := by unfold inW; omega
  have wc : inW c := by unfold inW; omega
  have wd : inW d := by unfold inW; omega
  have hlt := lenI_lt wa wb wc wd
  have hle := lenI_le wa wb wc wd
  have hlen := fun D => ev_len D a b c d wa wb wc wd
  have hAe : a * 6277101735386680763835789423207666416102355444464034512896 + b * 340282366920938463463374607431768211456 + c * 18446744073709551616 + d = A := by omega
  rw [hAe] at hlt
  obtain ⟨L, hL⟩ : ∃ L : Nat, L = (lenI a b c d).toNat := ⟨_, rfl⟩
  have hLi : lenI a b c d = (L : Int) := by omega
  rw [hLi] at hlen hle
  rw [← hL] at hlt
  have z : A / 2 ^ L = 0 := Int.ediv_eq_zero_of_lt hA hlt
  have hloop := loop_k (call := evFun T (D+2)) (b := ir123_l0) (tr := ir123_t0) (bx := ir123_x0) (fun k => dS A B (L : Int) ((L : Int) - 1) (L - k) (if k = 0 then [8, 7, 5, 4, 3, 2] else [11, 8, 7, 5, 4, 3, 2])) L
    (fun k hk K => by
      have := dS_round D A B (L : Int) ((L : Int) - 1) (L - (k + 1)) (if k = 0 then [8, 7, 5, 4, 3, 2] else [11, 8, 7, 5, 4, 3, 2]) (by by_cases h : k = 0 <;> simp [h]) (by omega) hA hA' hB hB' K
      rw [show L - (k + 1) + 1 = L - k by omega] at this
      simpa using this)
    (fun K => by
      have := div_exit D a b c d (B / 18446744073709551616) (B % 18446744073709551616) (L : Int) ((L : Int) - 1) (A % B / 18446744073709551616) (A % B % 18446744073709551616) (A / B % 18446744073709551616) (A / B / 18446744073709551616 % 18446744073709551616) (A / B / 340282366920938463463374607431768211456 % 18446744073709551616) (A / B / 6277101735386680763835789423207666416102355444464034512896) (if L = 0 then [8, 7, 5, 4, 3, 2] else [11, 8, 7, 5, 4, 3, 2]) K
      simp only [dS, Nat.sub_self, Int.pow_zero, Int.ediv_one, Int.mul_one, ← ha, ← hb, ← hc, ← hd]
      exact this) 18446744073709551616 (by omega)
  simp only [dS, z, Nat.sub_zero, Int.zero_ediv, Int.zero_mul, Int.zero_emod, if_true, ← ha, ← hb, ← hc, ← hd] at hloop
  have e1 : ((L : Int) - 1 + 9223372036854775808) % 18446744073709551616 - 9223372036854775808 = (L : Int) - 1 := by omega
  have hz : (B / 18446744073709551616 == 0 && B % 18446744073709551616 == 0) = false := by
    simp only [Bool.and_eq_false_iff, beq_eq_false_iff_ne]; omega
  unfold fourV
  rw [← ha, ← hb, ← hc, ← hd]
  have h1 := fun D => ev_list D a b c d
  simp only [divS, St.put, up] at hloop
  clear hlt hle hAe hL hLi z
  generalize hcr : (if L = 0 then [8, 7, 5, 4, 3, 2] else [11, 8, 7, 5, 4, 3, 2]) = cr at hloop
  have hcr2 : cr = [8, 7, 5, 4, 3, 2] ∨ cr = [11, 8, 7, 5, 4, 3, 2] := by rw [← hcr]; split <;> simp
  clear hcr
  simp at hloop
  rcases hcr2 with rfl | rfl
  · rw [ev_fn T123]; simp (maxSteps := 2000000) [ir123, h1, hlen, hz, e1, hloop, ev_four, -Bool.and_eq_false_imp]
  · rw [ev_fn T123]; simp (maxSteps := 2000000) [ir123, h1, hlen, hz, e1, hloop, ev_four, -Bool.and_eq_false_imp]
end Go.Ab

namespace Go.Ab
attribute [local simp] runFn args0 e_skip e_reg regC_some e_seq seqC_n seqC_e seqC_r e_cond condC_t condC_f e_block e_loop e_exit e_ret nextC_n nextC_e nextC_r nextK_n nextK_e nextK_r evReg evOps evOp wants fp St.ev St.get St.set St.sets St.put St.apply St.pre preK inB lk up del hits V.cells V.cellsG allPlain Cell.plain pure1 keysOf okUn noK Ev.apart meets mkV splice fillC binC unC mmC eqCs eqC resVs resV one export1 V.keys V.keys1 outKeys valsKeys cellsKeys Cell.keys Blk.keys elsKeys fpCall fpCallG noTup reach getAll outW newW names srcs capsOf onesOf slB rowsOf V.ren V.ren1 Cell.ren Loc.ren locsRen Blk.ren inR outR place nm St.sweep swept St.kill killR lmap delAll St.trim reachL expR ownGet b2i_le wrap_u64 wrap_i64 bits_u64 bits_i64 or_u64 and_u64 Int.fdiv_eq_ediv_of_nonneg word mmC hits
def cmpI (a b : Int) : Int := if a < b then -1 else if b < a then 1 else 0
def orN (a b : Int) : Int := if a = 0 then b else a
theorem ev_cmpU (D : Nat) (a b : Int) : evFun T (D+2) 149 [.c (.int .u64 a), .c (.int .u64 b)] [] = some (.c (.int .i64 (cmpI a b)), [], []) := by
  have h : ∀ D (x : Int), evFun T (D+1) 178 [.c (.int .u64 x)] [] = some (.c (.bool false), [], []) := by
    intro D x
    rw [ev_fn T178]; simp (maxSteps := 2000000) [ir178]
  unfold cmpI
  by_cases h1 : a < b
  · have e1 : decide (a < b) = true := by simpa using h1
    rw [if_pos h1]
    rw [ev_fn T149]; simp (maxSteps := 2000000) [ir149, h, e1]
  · have e1 : decide (a < b) = false := by simpa using h1
    rw [if_neg h1]
    by_cases h2 : b < a
    · have e2 : decide (b < a) = true := by simpa using h2
      rw [if_pos h2]
      rw [ev_fn T149]; simp (maxSteps := 2000000) [ir149, h, e1, e2]
    · have e2 : decide (b < a) = false := by simpa using h2
      rw [if_neg h2]
      rw [ev_fn T149]; simp (maxSteps := 2000000) [ir149, h, e1, e2]
theorem ev_cmpS (D : Nat) (a b : Int) : evFun T (D+2) 148 [.c (.int .i64 a), .c (.int .i64 b)] [] = some (.c (.int .i64 (cmpI a b)), [], []) := by
  have h : ∀ D (x : Int), evFun T (D+1) 177 [.c (.int .i64 x)] [] = some (.c (.bool false), [], []) := by
    intro D x
    rw [ev_fn T177]; simp (maxSteps := 2000000) [ir177]
  unfold cmpI
  by_cases h1 : a < b
  · have e1 : decide (a < b) = true := by simpa using h1
    rw [if_pos h1]
    rw [ev_fn T148]; simp (maxSteps := 2000000) [ir148, h, e1]
  · have e1 : decide (a < b) = false := by simpa using h1
    rw [if_neg h1]
    by_cases h2 : b < a
    · have e2 : decide (b < a) = true := by simpa using h2
      rw [if_pos h2]
      rw [ev_fn T148]; simp (maxSteps := 2000000) [ir148, h, e1, e2]
    · have e2 : decide (b < a) = false := by simpa using h2
      rw [if_neg h2]
      rw [ev_fn T148]; simp (maxSteps := 2000000) [ir148, h, e1, e2]
theorem ev_or2 (D t : Nat) (a b : Int) : evFun T (D+1) 147 [.c (.slc (.o 0) 1 0 2)] [⟨t, 1, true, true, [[.int .i64 a], [.int .i64 b]]⟩] = some (.c (.int .i64 (orN a b)), [some ⟨t, 1, true, true, [[.int .i64 a], [.int .i64 b]]⟩], []) := by
  unfold orN
  by_cases h1 : a = 0
  · subst h1
    by_cases h2 : b = 0
    · subst h2; rw [ev_fn T147]; simp (maxSteps := 2000000) [ir147, ir147_l0, ir147_t0, ir147_x0, loopC_step]
    · have e2 : (b != 0) = true := by simpa using h2
      rw [ev_fn T147]; simp (maxSteps := 2000000) [ir147, ir147_l0, ir147_t0, ir147_x0, loopC_step, e2]
  · have e1 : (a != 0) = true := by simpa using h1
    rw [if_neg h1]
    rw [ev_fn T147]; simp (maxSteps := 2000000) [ir147, ir147_l0, ir147_t0, ir147_x0, loopC_step, e1]
theorem ev_or4 (D t : Nat) (a b c d : Int) : evFun T (D+1) 147 [.c (.slc (.o 0) 1 0 4)] [⟨t, 1, true, true, [[.int .i64 a], [.int .i64 b], [.int .i64 c], [.int .i64 d]]⟩] = some (.c (.int .i64 (orN a (orN b (orN c d)))), [some ⟨t, 1, true, true, [[.int .i64 a], [.int .i64 b], [.int .i64 c], [.int .i64 d]]⟩], []) := by
  unfold orN
  by_cases h1 : a = 0
  · subst h1
    by_cases h2 : b = 0
    · subst h2
      by_cases h3 : c = 0
      · subst h3
        by_cases h4 : d = 0
        · subst h4; rw [ev_fn T147]; simp (maxSteps := 2000000) [ir147, ir147_l0, ir147_t0, ir147_x0, loopC_step]
        · have e4 : (d != 0) = true := by simpa using h4
          rw [ev_fn T147]; simp (maxSteps := 2000000) [ir147, ir147_l0, ir147_t0, ir147_x0, loopC_step, e4]
      · have e3 : (c != 0) = true := by simpa using h3
        rw [if_pos rfl, if_pos rfl, if_neg h3]
        rw [ev_fn T147]; simp (maxSteps := 2000000) [ir147, ir147_l0, ir147_t0, ir147_x0, loopC_step, e3]
    · have e2 : (b != 0) = true := by simpa using h2
      rw [if_pos rfl, if_neg h2]
      rw [ev_fn T147]; simp (maxSteps := 2000000) [ir147, ir147_l0, ir147_t0, ir147_x0, loopC_step, e2]
  · have e1 : (a != 0) = true := by simpa using h1
    rw [if_neg h1]
    rw [ev_fn T147]; simp (maxSteps := 2000000) [ir147, ir147_l0, ir147_t0, ir147_x0, loopC_step, e1]
theorem or_cmp (a b c d : Int) (hc : inW c) (hd : inW d) : orN (cmpI a b) (cmpI c d) = cmpI (a * 18446744073709551616 + c) (b * 18446744073709551616 + d) := by
  unfold orN cmpI; unfold inW at hc hd
  repeat' split
  all_goals omega
theorem or_assoc' (a b c : Int) : orN a (orN b c) = orN (orN a b) c := by unfold orN; repeat' split <;> simp_all
theorem ev_fcmp (D : Nat) (h1 l1 h2 l2 : Int) (k1 : okF h1 l1) (k2 : okF h2 l2) : evFun T (D+3) 102 [.agg [.int .i64 h1, .int .u64 l1], .agg [.int .i64 h2, .int .u64 l2]] [] = some (.c (.int .i64 (cmpI (fv h1 l1) (fv h2 l2))), [], []) := by
  have e := or_cmp h1 h2 l1 l2 ⟨k1.2.2.1, k1.2.2.2⟩ ⟨k2.2.2.1, k2.2.2.2⟩
  unfold fv
  rw [← e]
  rw [ev_fn T102]; simp (maxSteps := 2000000) [ir102, ev_cmpU, ev_cmpS, ev_or2]
theorem ev_lcmp (D : Nat) (a b c d e f g h : Int) (hb : inW b) (hc : inW c) (hd : inW d) (hf : inW f) (hg : inW g) (hh : inW h) : evFun T (D+3) 124 [.agg [.int .u64 a, .int .u64 b, .int .u64 c, .int .u64 d], .agg [.int .u64 e, .int .u64 f, .int .u64 g, .int .u64 h]] [] =
    some (.c (.int .i64 (cmpI (((a * 18446744073709551616 + b) * 18446744073709551616 + c) * 18446744073709551616 + d) (((e * 18446744073709551616 + f) * 18446744073709551616 + g) * 18446744073709551616 + h))), [], []) := by
  rw [← or_cmp _ _ d h hd hh, ← or_cmp _ _ c g hc hg, ← or_cmp _ _ b f hb hf, ← or_assoc', ← or_assoc']
  rw [ev_fn T124]; simp (maxSteps := 2000000) [ir124, ev_cmpU, ev_or4]
end Go.Ab

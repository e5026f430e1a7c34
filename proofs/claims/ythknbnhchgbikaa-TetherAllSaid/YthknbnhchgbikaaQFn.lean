/- Words for this claim: an evaluator of the program's functions, and what they come to. -/
import Derived.Test.YthknbnhchgbikaaQFm
set_option linter.all false
namespace Go.Ab
attribute [local simp] runFn args0 e_skip e_reg regC_some e_seq seqC_n seqC_e seqC_r e_cond condC_t condC_f e_block e_loop e_exit e_ret nextC_n nextC_e nextC_r nextK_n nextK_e nextK_r evReg evOps evOp wants fp St.ev St.get St.set St.sets St.put St.apply St.pre preK inB lk up del hits V.cells V.cellsG allPlain Cell.plain pure1 keysOf okUn noK Ev.apart meets mkV splice fillC binC unC mmC eqCs eqC resVs resV one export1 V.keys V.keys1 outKeys valsKeys cellsKeys Cell.keys Blk.keys elsKeys fpCall fpCallG noTup reach getAll outW newW names srcs capsOf onesOf slB rowsOf V.ren V.ren1 Cell.ren Loc.ren locsRen Blk.ren inR outR place nm St.sweep swept St.kill killR lmap delAll St.trim reachL expR ownGet b2i_le wrap_u64 wrap_i64 bits_u64 bits_i64 or_u64 and_u64 Int.fdiv_eq_ediv_of_nonneg word mmC hits
def rdS (a b c d e f N rh rl q0 q1 q2 q3 : Int) : St :=
  { env := [(0, .agg [.int .u64 a, .int .u64 b, .int .u64 c, .int .u64 d]), (1, .agg [.int .u64 e, .int .u64 f]), (2, .c (.ptr { k := Key.l 2, i := 0, o := 0 })), (3, .c (.ptr { k := Key.l 3, i := 0, o := 0 })), (4, .c (.ptr { k := Key.l 4, i := 0, o := 0 })), (9, .agg [.int .u64 e, .int .u64 f]), (10, .agg [.int .u64 0, .int .u64 0]), (11, .c (.bool false)), (13, .agg [.int .u64 0, .int .u64 0, .int .u64 0, .int .u64 0, .int .u64 0, .int .u64 0, .bool true]), (5, .c (.ptr { k := Key.l 5, i := 0, o := 0 })), (14, .c (.slc (Key.l 14) 1 0 4)), (6, .c (.slc (Key.l 14) 1 0 4)), (7, .c (.int .i64 N))],
    loc := [(2, { T := 181, sz := 4, own := true, pl := true, els := [[.int .u64 a, .int .u64 b, .int .u64 c, .int .u64 d]] }), (3, { T := 108, sz := 2, own := true, pl := true, els := [[.int .u64 e, .int .u64 f]] }), (4, { T := 194, sz := 7, own := true, pl := true, els := [[.int .u64 0, .int .u64 0, .int .u64 0, .int .u64 0, .int .u64 0, .int .u64 0, .bool false]] }), (5, { T := 194, sz := 7, own := true, pl := true, els := [[.int .u64 0, .int .u64 0, .int .u64 0, .int .u64 0, .int .u64 rh, .int .u64 rl, .bool true]] }), (14, { T := 23, sz := 1, own := true, pl := true, els := [[.int .u64 q0], [.int .u64 q1], [.int .u64 q2], [.int .u64 q3]] })],
    out := [], cr := [14, 5, 4, 3, 2] }
def rrS (a b c d N sh sl : Int) (cr : List Nat) : St :=
  { env := [(0, .agg [.int .u64 a, .int .u64 b, .int .u64 c, .int .u64 d]), (1, .c (.ptr { k := Key.l 1, i := 0, o := 0 })), (2, .c (.ptr { k := Key.l 2, i := 0, o := 0 })), (3, .c (.ptr { k := Key.l 3, i := 0, o := 0 })), (4, .c (.int .i64 N))],
    loc := [(1, { T := 181, sz := 4, own := true, pl := true, els := [[.int .u64 a, .int .u64 b, .int .u64 c, .int .u64 d]] }), (2, { T := 108, sz := 2, own := true, pl := true, els := [[.int .u64 0, .int .u64 0]] }), (3, { T := 108, sz := 2, own := true, pl := true, els := [[.int .u64 sh, .int .u64 sl]] })],
    out := [], cr := cr }
set_option maxHeartbeats 8000000 in
theorem rdiv_round (D : Nat) (a b c d e f N rh rl q0 q1 q2 q3 B : Int) (i m : Nat) (h0 : (0 : Int) ≤ N) (hN : N < 256) (h1 : N.tdiv 64 = i) (h2 : N.tmod 64 = m) (hi : i < 4) (hm : m < 64)
    (hb : evFun T (D+2) 171 [.agg [.int .u64 a, .int .u64 b, .int .u64 c, .int .u64 d], .c (.int .i64 N)] [] = some (.c (.int .u64 B), [], []))
    (R H X Y : Int) (u t : Bool) (hn : (rh / 9223372036854775808 == 1) = u) (hR : orI (rh * 2 % 18446744073709551616) (rl / 9223372036854775808 % 18446744073709551616) = R) (hH : orI (rl * 2 % 18446744073709551616) (B % 18446744073709551616) = H)
    (hl : evFun T (D+2) 54 [.agg [.int .u64 R, .int .u64 H], .agg [.int .u64 e, .int .u64 f]] [] = some (.c (.bool t), [], []))
    (hs : evFun T (D+2) 72 [.agg [.int .u64 R, .int .u64 H], .agg [.int .u64 e, .int .u64 f]] [] = some (.agg [.int .u64 X, .int .u64 Y, .bool t], [], [])) (x : Int) (hx : x = orI (pick4 i q0 q1 q2 q3 % 18446744073709551616) (2 ^ m % 18446744073709551616)) :
    ∀ K, nextK K ir135_t0 ir135_x0 (evCode (evFun T (D+2)) ir135_l0 (rdS a b c d e f N rh rl q0 q1 q2 q3)) =
      K (if u || !t then rdS a b c d e f (N - 1) X Y (if i = 0 then x else q0) (if i = 1 then x else q1) (if i = 2 then x else q2) (if i = 3 then x else q3) else rdS a b c d e f (N - 1) R H q0 q1 q2 q3) := by
  intro K
  have e3 := small_wrap hi
  have e4 := min_m hm
  have e7 : (i : Int) < 4 := by omega
  have e8 : (N - 1 + 9223372036854775808) % 18446744073709551616 - 9223372036854775808 = N - 1 := by omega
  have g4 := get4 hi q0 q1 q2 q3
  have s4 := fun y => set4 hi q0 q1 q2 q3 y
  obtain ⟨call, hcall⟩ : ∃ call, call = evFun T (D + 2) := ⟨_, rfl⟩
  rw [← hcall] at hb hl hs ⊢
  clear hcall
  cases u <;> cases t <;>
  simp (maxSteps := 2000000) [rdS, ir135_l0, ir135_t0, ir135_x0, h0, h1, h2, hb, hn, hs, hl, hR, hH, e3, e4, e7, e8, g4, s4, hi, ← hx, -getElem?_pos, List.getElem?_cons_zero, List.getElem?_cons_succ]
theorem rdiv_exit (call : CallF) (a b c d e f rh rl q0 q1 q2 q3 : Int) :
    ∀ K, nextK K ir135_t0 ir135_x0 (evCode call ir135_l0 (rdS a b c d e f (-1) rh rl q0 q1 q2 q3)) =
      some (.exit 0, ((rdS a b c d e f (-1) rh rl q0 q1 q2 q3).put (some 15) (.c (.int .i64 (-1)))).put (some 16) (.c (.bool false))) := by
  intro K
  simp [rdS, ir135_l0, ir135_t0, ir135_x0]
theorem rroot_lo (D : Nat) (a b c d sh sl C x : Int) (PV : V) (m : Nat) (u : Bool) (cr : List Nat) (hcr : cr = [3, 2, 1] ∨ cr = [5, 3, 2, 1]) (hm : m < 64) (hx : orI (sl % 18446744073709551616) (2 ^ m % 18446744073709551616) = x) (hP : ∃ p q r s, PV = .agg [.int .u64 p, .int .u64 q, .int .u64 r, .int .u64 s])
    (h1 : evFun T (D+3) 131 [.agg [.int .u64 sh, .int .u64 x], .agg [.int .u64 sh, .int .u64 x]] [] = some (PV, [], []))
    (h2 : evFun T (D+3) 170 [PV, .agg [.int .u64 a, .int .u64 b, .int .u64 c, .int .u64 d]] [] = some (.c (.int .i64 C), [], [])) (h3 : decide (C ≤ 0) = u) :
    ∀ K, nextK K ir133_t0 ir133_x0 (evCode (evFun T (D+3)) ir133_l0 (rrS a b c d (m : Int) sh sl cr)) = K (if u then rrS a b c d ((m : Int) - 1) sh x [5, 3, 2, 1] else rrS a b c d ((m : Int) - 1) sh sl [5, 3, 2, 1]) := by
  intro K
  obtain ⟨p, q, r, s, rfl⟩ := hP
  have e4 := min_m hm
  have e6 : ¬ ((64 : Int) ≤ (m : Int)) := by omega
  have e6' : ¬ (64 ≤ m) := by omega
  have e8 : ((m : Int) - 1 + 9223372036854775808) % 18446744073709551616 - 9223372036854775808 = (m : Int) - 1 := by omega
  have e5 := lt_wrap hm
  rw [e5] at hx
  obtain ⟨call, hcall⟩ : ∃ call, call = evFun T (D + 3) := ⟨_, rfl⟩
  rw [← hcall] at h1 h2 ⊢
  clear hcall
  rcases hcr with rfl | rfl <;> cases u <;>
  simp (maxSteps := 2000000) [rrS, ir133_l0, ir133_t0, ir133_x0, h1, h2, h3, e4, e5, e6, e6', e8, hx]
theorem rroot_hi (D : Nat) (a b c d sh sl C x : Int) (PV : V) (m : Nat) (u : Bool) (cr : List Nat) (hcr : cr = [3, 2, 1] ∨ cr = [5, 3, 2, 1]) (hm : m < 64) (hx : orI (sh % 18446744073709551616) (2 ^ m % 18446744073709551616) = x) (hP : ∃ p q r s, PV = .agg [.int .u64 p, .int .u64 q, .int .u64 r, .int .u64 s])
    (h1 : evFun T (D+3) 131 [.agg [.int .u64 x, .int .u64 sl], .agg [.int .u64 x, .int .u64 sl]] [] = some (PV, [], []))
    (h2 : evFun T (D+3) 170 [PV, .agg [.int .u64 a, .int .u64 b, .int .u64 c, .int .u64 d]] [] = some (.c (.int .i64 C), [], [])) (h3 : decide (C ≤ 0) = u) (N : Int) (hN : N = (m : Int) + 64) :
    ∀ K, nextK K ir133_t0 ir133_x0 (evCode (evFun T (D+3)) ir133_l0 (rrS a b c d N sh sl cr)) = K (if u then rrS a b c d (N - 1) x sl [5, 3, 2, 1] else rrS a b c d (N - 1) sh sl [5, 3, 2, 1]) := by
  intro K
  obtain ⟨p, q, r, s, rfl⟩ := hP
  have e4 := min_m hm
  have e6 : (64 : Int) ≤ N := by omega
  have e7 : (0 : Int) ≤ N := by omega
  have e8 : (N - 1 + 9223372036854775808) % 18446744073709551616 - 9223372036854775808 = N - 1 := by omega
  have e9 : (N - 64 + 9223372036854775808) % 18446744073709551616 - 9223372036854775808 = (m : Int) := by omega
  have e5 := lt_wrap hm
  rw [e5] at hx
  clear hN
  obtain ⟨call, hcall⟩ : ∃ call, call = evFun T (D + 3) := ⟨_, rfl⟩
  rw [← hcall] at h1 h2 ⊢
  clear hcall
  rcases hcr with rfl | rfl <;> cases u <;>
  simp (maxSteps := 2000000) [rrS, ir133_l0, ir133_t0, ir133_x0, h1, h2, h3, e4, e5, e6, e7, e8, e9, hx]
theorem rroot_exit (call : CallF) (a b c d sh sl : Int) (cr : List Nat) :
    ∀ K, nextK K ir133_t0 ir133_x0 (evCode call ir133_l0 (rrS a b c d (-1) sh sl cr)) = some (.exit 0, ((rrS a b c d (-1) sh sl cr).put (some 6) (.c (.int .i64 (-1)))).put (some 7) (.c (.bool false))) := by
  intro K
  simp [rrS, ir133_l0, ir133_t0, ir133_x0]
end Go.Ab

namespace Go.Ab
attribute [local simp] runFn args0 e_skip e_reg regC_some e_seq seqC_n seqC_e seqC_r e_cond condC_t condC_f e_block e_loop e_exit e_ret nextC_n nextC_e nextC_r nextK_n nextK_e nextK_r evReg evOps evOp wants fp St.ev St.get St.set St.sets St.put St.apply St.pre preK inB lk up del hits V.cells V.cellsG allPlain Cell.plain pure1 keysOf okUn noK Ev.apart meets mkV splice fillC binC unC mmC eqCs eqC resVs resV one export1 V.keys V.keys1 outKeys valsKeys cellsKeys Cell.keys Blk.keys elsKeys fpCall fpCallG noTup reach getAll outW newW names srcs capsOf onesOf slB rowsOf V.ren V.ren1 Cell.ren Loc.ren locsRen Blk.ren inR outR place nm St.sweep swept St.kill killR lmap delAll St.trim reachL expR ownGet b2i_le wrap_u64 wrap_i64 bits_u64 bits_i64 or_u64 and_u64 Int.fdiv_eq_ediv_of_nonneg word mmC hits
/-- The state ahead of a round: so many bits are left. -/
def rD (A B : Int) (n1 : Nat) : St :=
  rdS (A / 6277101735386680763835789423207666416102355444464034512896) (A / 340282366920938463463374607431768211456 % 18446744073709551616) (A / 18446744073709551616 % 18446744073709551616) (A % 18446744073709551616) (B / 18446744073709551616) (B % 18446744073709551616) ((n1 : Int) - 1)
    (A / 2 ^ n1 % B / 18446744073709551616) (A / 2 ^ n1 % B % 18446744073709551616) (A / 2 ^ n1 / B * 2 ^ n1 % 18446744073709551616) (A / 2 ^ n1 / B * 2 ^ n1 / 18446744073709551616 % 18446744073709551616) (A / 2 ^ n1 / B * 2 ^ n1 / 340282366920938463463374607431768211456 % 18446744073709551616) (A / 2 ^ n1 / B * 2 ^ n1 / 6277101735386680763835789423207666416102355444464034512896)
theorem rD_round (D : Nat) (A B : Int) (n : Nat) (hn : n < 256) (hA : 0 ≤ A) (hA' : A < 115792089237316195423570985008687907853269984665640564039457584007913129639936) (hB : 0 < B) (hB' : B < 340282366920938463463374607431768211456) :
    ∀ K, nextK K ir135_t0 ir135_x0 (evCode (evFun T (D+2)) ir135_l0 (rD A B (n + 1))) = K (rD A B n) := by
  intro K
  have hi : n / 64 < 4 := by omega
  have hm : n % 64 < 64 := by omega
  have hnn : n = 64 * (n / 64) + n % 64 := by omega
  have hN : ((n + 1 : Nat) : Int) - 1 = (n : Int) := by omega
  have r0 := Int.emod_nonneg (A / 2 ^ (n + 1)) (show B ≠ 0 by omega)
  have r1 := Int.emod_lt_of_pos (A / 2 ^ (n + 1)) hB
  have hst := div_step A B n hA hB
  have hpb := pick_bit A (n / 64) (n % 64) n hi hm hnn hA' hA
  have hbit : evFun T (D+2) 171 [.agg [.int .u64 (A / 6277101735386680763835789423207666416102355444464034512896), .int .u64 (A / 340282366920938463463374607431768211456 % 18446744073709551616), .int .u64 (A / 18446744073709551616 % 18446744073709551616), .int .u64 (A % 18446744073709551616)], .c (.int .i64 (n : Int))] [] = some (.c (.int .u64 (A / 2 ^ n % 2)), [], []) := by
    rw [R_bit D n _ _ _ _ (n / 64) (n % 64) (tdiv_nat n) (tmod_nat n) hi hm (by unfold inW; omega) (by unfold inW; omega) (by unfold inW; omega) (by unfold inW; omega), hpb]
  have ht : 0 ≤ A / 2 ^ n % 2 ∧ A / 2 ^ n % 2 ≤ 1 := by omega
  have hq := q_le A B (n + 1) hA hB
  have hQd : A / 2 ^ (n + 1) / B * 2 ^ (n + 1) % 2 ^ (n + 1) = 0 := Int.mul_emod_left ..
  have hsb := set_bit (A / 2 ^ (n + 1) / B * 2 ^ (n + 1)) (n / 64) (n % 64) n hi hm hnn hq.1 (by omega) hQd _ rfl
  have hw := div_words (A / 2 ^ (n + 1) % B) B (A / 2 ^ n % 2) r0 r1 hB' ht
  have ws := inW_of_lt (x := (2 * (A / 2 ^ (n + 1) % B) + A / 2 ^ n % 2) % 340282366920938463463374607431768211456) (by omega) (by omega)
  have wB := inW_of_lt (x := B) (by omega) hB'
  have hl := R_less (D+1) ws.1 ws.2 wB.1 wB.2
  have hs := R_sub2 D ws.1 ws.2 wB.1 wB.2
  rw [fv_dm, fv_dm] at hl hs
  have key := rdiv_round D (A / 6277101735386680763835789423207666416102355444464034512896) (A / 340282366920938463463374607431768211456 % 18446744073709551616) (A / 18446744073709551616 % 18446744073709551616) (A % 18446744073709551616) (B / 18446744073709551616) (B % 18446744073709551616) n
    (A / 2 ^ (n + 1) % B / 18446744073709551616) (A / 2 ^ (n + 1) % B % 18446744073709551616) (A / 2 ^ (n + 1) / B * 2 ^ (n + 1) % 18446744073709551616) (A / 2 ^ (n + 1) / B * 2 ^ (n + 1) / 18446744073709551616 % 18446744073709551616) (A / 2 ^ (n + 1) / B * 2 ^ (n + 1) / 340282366920938463463374607431768211456 % 18446744073709551616) (A / 2 ^ (n + 1) / B * 2 ^ (n + 1) / 6277101735386680763835789423207666416102355444464034512896) (A / 2 ^ n % 2) (n / 64) (n % 64) (by omega) (by omega) (tdiv_nat n) (tmod_nat n) hi hm hbit _ _ _ _ _ _ rfl hw.1 hw.2 hl hs _ rfl K
  unfold rD
  rw [hN, key, hsb.1, hsb.2.1, hsb.2.2.1, hsb.2.2.2.1]
  have e2 : A / 2 ^ (n + 1) / B * 2 ^ (n + 1) = 2 * (A / 2 ^ (n + 1) / B) * 2 ^ n := by rw [Int.pow_succ, Int.mul_comm (2 ^ n) 2, ← Int.mul_assoc, Int.mul_comm _ 2]
  clear key hsb hs hl hw hq hQd hbit hpb ws wB
  generalize A / 2 ^ (n + 1) % B = r at *
  generalize A / 2 ^ n % 2 = t at *
  by_cases h : B ≤ 2 * r + t
  · rw [if_pos]
    · obtain ⟨s1, s2⟩ := hst.2.2 h
      rw [s1, s2]
      have e3 : ((2 * r + t) % 340282366920938463463374607431768211456 - B) % 340282366920938463463374607431768211456 = 2 * r + t - B := by omega
      have e4 : A / 2 ^ (n + 1) / B * 2 ^ (n + 1) + 2 ^ n = (2 * (A / 2 ^ (n + 1) / B) + 1) * 2 ^ n := by rw [e2, Int.add_mul, Int.one_mul]
      rw [e3, e4]
    · simp only [Bool.or_eq_true, beq_iff_eq, Bool.not_eq_true', decide_eq_false_iff_not]
      omega
  · rw [if_neg]
    · obtain ⟨s1, s2⟩ := hst.2.1 (by omega)
      rw [s1, s2]
      have e3 : (2 * r + t) % 340282366920938463463374607431768211456 = 2 * r + t := by omega
      rw [e3, e2]
    · simp only [Bool.or_eq_true, beq_iff_eq, Bool.not_eq_true', decide_eq_false_iff_not]
      omega
theorem R_div4 (D : Nat) (A B : Int) (hA : 0 ≤ A) (hA' : A < 115792089237316195423570985008687907853269984665640564039457584007913129639936) (hB : 0 < B) (hB' : B < 340282366920938463463374607431768211456) :
    evFun T (D+3) 135 [fourV A, .agg [.int .u64 (B / 18446744073709551616), .int .u64 (B % 18446744073709551616)]] [] =
      some (.agg [.int .u64 (A / B / 6277101735386680763835789423207666416102355444464034512896), .int .u64 (A / B / 340282366920938463463374607431768211456 % 18446744073709551616), .int .u64 (A / B / 18446744073709551616 % 18446744073709551616), .int .u64 (A / B % 18446744073709551616), .int .u64 (A % B / 18446744073709551616), .int .u64 (A % B % 18446744073709551616), .bool true], [], []) := by
  have z : A / 2 ^ 256 = 0 := Int.ediv_eq_zero_of_lt hA (by exact hA')
  have hloop := loop_k (call := evFun T (D+2)) (b := ir135_l0) (tr := ir135_t0) (bx := ir135_x0) (fun k => rD A B (256 - k)) 256
    (fun k hk K => by
      have := rD_round D A B (256 - (k + 1)) (by omega) hA hA' hB hB' K
      rw [show 256 - (k + 1) + 1 = 256 - k by omega] at this
      exact this)
    (fun K => by
      have := rdiv_exit (evFun T (D+2)) (A / 6277101735386680763835789423207666416102355444464034512896) (A / 340282366920938463463374607431768211456 % 18446744073709551616) (A / 18446744073709551616 % 18446744073709551616) (A % 18446744073709551616) (B / 18446744073709551616) (B % 18446744073709551616) (A % B / 18446744073709551616) (A % B % 18446744073709551616) (A / B % 18446744073709551616) (A / B / 18446744073709551616 % 18446744073709551616) (A / B / 340282366920938463463374607431768211456 % 18446744073709551616) (A / B / 6277101735386680763835789423207666416102355444464034512896) K
      simp only [rD, Nat.sub_self, Int.pow_zero, Int.ediv_one, Int.mul_one]
      exact this) 18446744073709551616 (by omega)
  simp only [rD, z, Nat.sub_zero, Int.zero_ediv, Int.zero_mul, Int.zero_emod] at hloop
  have hz : (B / 18446744073709551616 == 0 && B % 18446744073709551616 == 0) = false := by
    simp only [Bool.and_eq_false_iff, beq_eq_false_iff_ne]; omega
  have f := R_four (D+1) (A / B / 6277101735386680763835789423207666416102355444464034512896) (A / B / 340282366920938463463374607431768211456 % 18446744073709551616) (A / B / 18446744073709551616 % 18446744073709551616) (A / B % 18446744073709551616)
  unfold fourV
  simp only [rdS, St.put, up] at hloop
  clear z
  simp at hloop
  rw [ev_fn T135]; (try simp only [Nat.add_assoc, Nat.reduceAdd] at hloop f); obtain ⟨call, hcall⟩ : ∃ call, call = evFun T (D + 2) := ⟨_, rfl⟩; rw [← hcall] at hloop f ⊢; clear hcall; simp (maxSteps := 2000000) [ir135, hz, hloop, f, -Bool.and_eq_false_imp, maxRow, List.replicate]
def rR (A : Int) (k : Nat) (cr : List Nat) : St :=
  rrS (A / 6277101735386680763835789423207666416102355444464034512896) (A / 340282366920938463463374607431768211456 % 18446744073709551616) (A / 18446744073709551616 % 18446744073709551616) (A % 18446744073709551616) (127 - (k : Int)) (rootV A 128 k / 18446744073709551616) (rootV A 128 k % 18446744073709551616) cr
theorem R_cmp4' (D : Nat) (P A : Int) (hP : 0 ≤ P) (hA : 0 ≤ A) : evFun T (D+2) 170 [fourV P, fourV A] [] = some (.c (.int .i64 (cmpI P A)), [], []) := by
  unfold fourV
  rw [R_cmp4 D _ _ _ _ _ _ _ _ (by unfold inW; omega) (by unfold inW; omega) (by unfold inW; omega) (by unfold inW; omega) (by unfold inW; omega) (by unfold inW; omega)]
  rw [show ((P / 6277101735386680763835789423207666416102355444464034512896 * 18446744073709551616 + P / 340282366920938463463374607431768211456 % 18446744073709551616) * 18446744073709551616 + P / 18446744073709551616 % 18446744073709551616) * 18446744073709551616 + P % 18446744073709551616 = P by omega,
    show ((A / 6277101735386680763835789423207666416102355444464034512896 * 18446744073709551616 + A / 340282366920938463463374607431768211456 % 18446744073709551616) * 18446744073709551616 + A / 18446744073709551616 % 18446744073709551616) * 18446744073709551616 + A % 18446744073709551616 = A by omega]
theorem R_sq (D : Nat) (t : Int) (h0 : 0 ≤ t) (h1 : t < 340282366920938463463374607431768211456) : evFun T (D+3) 131 [.agg [.int .u64 (t / 18446744073709551616), .int .u64 (t % 18446744073709551616)], .agg [.int .u64 (t / 18446744073709551616), .int .u64 (t % 18446744073709551616)]] [] = some (fourV (t * t), [], []) := by
  have w := inW_of_lt h0 h1
  have := R_mul2 D _ _ _ _ w.1 w.2 w.1 w.2
  rwa [fv_dm] at this
theorem rR_round (D : Nat) (A : Int) (k : Nat) (cr : List Nat) (hcr : cr = [3, 2, 1] ∨ cr = [5, 3, 2, 1]) (hk : k < 128) (hA : 0 ≤ A) (hA' : A < 115792089237316195423570985008687907853269984665640564039457584007913129639936) :
    ∀ K, nextK K ir133_t0 ir133_x0 (evCode (evFun T (D+3)) ir133_l0 (rR A k cr)) = K (rR A (k + 1) [5, 3, 2, 1]) := by
  intro K
  obtain ⟨v0, v1, v2⟩ := rootV_inv A 128 hA k (by omega)
  have v3 := rootV_lt A 128 hA hA' (k := k) (by omega)
  have hv : rootV A 128 (k + 1) = if (rootV A 128 k + 2 ^ (128 - 1 - k)) * (rootV A 128 k + 2 ^ (128 - 1 - k)) ≤ A then rootV A 128 k + 2 ^ (128 - 1 - k) else rootV A 128 k := rfl
  unfold rR
  rw [hv]
  generalize rootV A 128 k = v at *
  obtain ⟨n, hn'⟩ : ∃ n, n = 128 - 1 - k := ⟨_, rfl⟩
  rw [← hn']
  rw [show 128 - k = n + 1 by omega] at v2
  have hs := set_bit2 v n (by omega) v0 v3 v2
  have p : (0 : Int) < 2 ^ n := Int.pow_pos (by decide)
  have hm := R_sq D (v + 2 ^ n) (by omega) hs.2.2
  have hc := R_cmp4' (D+1) ((v + 2 ^ n) * (v + 2 ^ n)) A (Int.mul_nonneg (by omega) (by omega)) hA
  have hN : (127 : Int) - (k : Int) = (n : Int) := by omega
  have hN2 : (127 : Int) - ((k + 1 : Nat) : Int) = (n : Int) - 1 := by omega
  rw [hN, hN2]
  by_cases h : n < 64
  · obtain ⟨s1, s2⟩ := hs.1 h
    rw [← s2] at hm
    have := rroot_lo D (A / 6277101735386680763835789423207666416102355444464034512896) (A / 340282366920938463463374607431768211456 % 18446744073709551616) (A / 18446744073709551616 % 18446744073709551616) (A % 18446744073709551616) (v / 18446744073709551616) (v % 18446744073709551616) _ _ _ n _ cr hcr h (by rw [Int.emod_emod]; exact s1) ⟨_, _, _, _, rfl⟩ hm hc (cmpI_le _ _) K
    rw [this]
    by_cases q : (v + 2 ^ n) * (v + 2 ^ n) ≤ A
    · simp only [q, decide_true, if_true, ← s2]
    · simp only [q, decide_false, if_false, Bool.false_eq_true]
  · obtain ⟨s1, s2⟩ := hs.2.1 (by omega)
    rw [← s1] at hm
    have := rroot_hi D (A / 6277101735386680763835789423207666416102355444464034512896) (A / 340282366920938463463374607431768211456 % 18446744073709551616) (A / 18446744073709551616 % 18446744073709551616) (A % 18446744073709551616) (v / 18446744073709551616) (v % 18446744073709551616) _ _ _ (n - 64) _ cr hcr (by omega) s2 ⟨_, _, _, _, rfl⟩ hm hc (cmpI_le _ _) (n : Int) (by omega) K
    rw [this]
    by_cases q : (v + 2 ^ n) * (v + 2 ^ n) ≤ A
    · simp only [q, decide_true, if_true, ← s1]
    · simp only [q, decide_false, if_false, Bool.false_eq_true]
theorem R_root (D : Nat) (A : Int) (hA : 0 ≤ A) (hA' : A < 115792089237316195423570985008687907853269984665640564039457584007913129639936) : evFun T (D+4) 133 [fourV A] [] = some (.agg [.int .u64 (sqrtI A / 18446744073709551616), .int .u64 (sqrtI A % 18446744073709551616)], [], []) := by
  have hroot : rootV A 128 128 = sqrtI A := by
    have h1 := rootV_go A 128 128 (Nat.le_refl _)
    rw [Nat.sub_self] at h1
    exact h1
  have hloop := loop_k (call := evFun T (D+3)) (b := ir133_l0) (tr := ir133_t0) (bx := ir133_x0) (fun k => rR A k (if k = 0 then [3, 2, 1] else [5, 3, 2, 1])) 128
    (fun k hk K => by
      have := rR_round D A k (if k = 0 then [3, 2, 1] else [5, 3, 2, 1]) (by by_cases h : k = 0 <;> simp [h]) hk hA hA' K
      simpa using this)
    (fun K => by
      have := rroot_exit (evFun T (D+3)) (A / 6277101735386680763835789423207666416102355444464034512896) (A / 340282366920938463463374607431768211456 % 18446744073709551616) (A / 18446744073709551616 % 18446744073709551616) (A % 18446744073709551616) (sqrtI A / 18446744073709551616) (sqrtI A % 18446744073709551616) [5, 3, 2, 1] K
      simp only [rR, hroot]
      exact this) 18446744073709551616 (by omega)
  have z : rootV A 128 0 = 0 := rfl
  simp only [rR, z, Int.zero_ediv, Int.zero_emod, if_true] at hloop
  unfold fourV
  simp only [rrS, St.put, up] at hloop
  clear z hroot
  simp at hloop
  rw [ev_fn T133]; (try simp only [Nat.add_assoc, Nat.reduceAdd] at hloop); obtain ⟨call, hcall⟩ : ∃ call, call = evFun T (D + 3) := ⟨_, rfl⟩; rw [← hcall] at hloop ⊢; clear hcall; simp (maxSteps := 2000000) [ir133, hloop]
end Go.Ab

namespace Go.Ab
attribute [local simp] runFn args0 e_skip e_reg regC_some e_seq seqC_n seqC_e seqC_r e_cond condC_t condC_f e_block e_loop e_exit e_ret nextC_n nextC_e nextC_r nextK_n nextK_e nextK_r evReg evOps evOp wants fp St.ev St.get St.set St.sets St.put St.apply St.pre preK inB lk up del hits V.cells V.cellsG allPlain Cell.plain pure1 keysOf okUn noK Ev.apart meets mkV splice fillC binC unC mmC eqCs eqC resVs resV one export1 V.keys V.keys1 outKeys valsKeys cellsKeys Cell.keys Blk.keys elsKeys fpCall fpCallG noTup reach getAll outW newW names srcs capsOf onesOf slB rowsOf V.ren V.ren1 Cell.ren Loc.ren locsRen Blk.ren inR outR place nm St.sweep swept St.kill killR lmap delAll St.trim reachL expR ownGet b2i_le wrap_u64 wrap_i64 bits_u64 bits_i64 or_u64 and_u64 Int.fdiv_eq_ediv_of_nonneg word mmC hits
theorem four_of (M : Int) : fourV M = .agg [.int .u64 (M / 6277101735386680763835789423207666416102355444464034512896), .int .u64 (M / 340282366920938463463374607431768211456 % 18446744073709551616), .int .u64 (M / 18446744073709551616 % 18446744073709551616), .int .u64 (M % 18446744073709551616)] := rfl
set_option maxHeartbeats 4000000 in
theorem R_div (D : Nat) {h1 l1 h2 l2 : Int} (k1 : okM h1 l1) (k2 : okM h2 l2) : evFun T (D+5) 76 [.agg [.int .i64 h1, .int .u64 l1], .agg [.int .i64 h2, .int .u64 l2]] [] =
    some (.agg [.int .i64 (fitN (divI (fv h1 l1) (fv h2 l2)) / 18446744073709551616), .int .u64 (fitN (divI (fv h1 l1) (fv h2 l2)) % 18446744073709551616), .int .i64 (divE (fv h1 l1) (fv h2 l2))], [], []) := by
  have b1 := okM_fv k1
  have b2 := okM_fv k2
  by_cases hz : fv h2 l2 = 0
  · have e0 : h2 = 0 ∧ l2 = 0 := by unfold okM at k2; unfold fv at hz; omega
    obtain ⟨rfl, rfl⟩ := e0
    rw [hz]
    unfold divE
    rw [divI_zero, fit_zero.1]
    rw [ev_fn T76]; simp (maxSteps := 2000000) [ir76]
  · have m1 := R_mag D k1
    have m2 := R_mag D k2
    have s1 : decide (h1 < 0) = decide (fv h1 l1 < 0) := by unfold okM at k1; unfold fv; congr 1; simp; omega
    have s2 : decide (h2 < 0) = decide (fv h2 l2 < 0) := by unfold okM at k2; unfold fv; congr 1; simp; omega
    have a1 := absI_lt b1
    have a2 := absI_lt b2
    have n1 := absI_nonneg (fv h1 l1)
    have n2 : 0 < absI (fv h2 l2) := by have := absI_zero (a := fv h2 l2); have := absI_nonneg (fv h2 l2); omega
    have hb : (h2 == 0 && l2 == 0) = false := by
      rw [Bool.eq_false_iff]; intro q; simp only [Bool.and_eq_true, beq_iff_eq] at q; apply hz; rw [q.1, q.2]; rfl
    have hd : divI (fv h1 l1) (fv h2 l2) = signI (!(decide (fv h1 l1 < 0) == decide (fv h2 l2 < 0))) ((absI (fv h1 l1) * 36893488147419103232 + absI (fv h2 l2)) / (2 * absI (fv h2 l2))) := rfl
    unfold divE
    rw [if_neg hz, hd, ← s1, ← s2]
    generalize absI (fv h1 l1) = A at *
    generalize absI (fv h2 l2) = B at *
    have sh := R_shl65 (D+2) A n1 (by omega)
    have wB := inW_of_lt (x := B) (by omega) (by omega)
    obtain ⟨X, hX⟩ : ∃ X, X = A * 36893488147419103232 := ⟨_, rfl⟩
    rw [← hX] at sh ⊢
    have ad := R_add2 (D+3) (h1 := X / 18446744073709551616 % 18446744073709551616) (l1 := X % 18446744073709551616) (by unfold inW; omega) (by unfold inW; omega) wB.1 wB.2
    rw [fv_dm] at ad
    have e1 : fv (X / 18446744073709551616 % 18446744073709551616) (X % 18446744073709551616) + B = X % 340282366920938463463374607431768211456 + B := by unfold fv; omega
    rw [e1] at ad
    have ad2 := R_add2 (D+3) (h1 := X / 6277101735386680763835789423207666416102355444464034512896) (l1 := X / 340282366920938463463374607431768211456 % 18446744073709551616) (h2 := 0) (l2 := 1) (by unfold inW; omega) (by unfold inW; omega) (by unfold inW; omega) (by unfold inW; omega)
    have e2 : (fv (X / 6277101735386680763835789423207666416102355444464034512896) (X / 340282366920938463463374607431768211456 % 18446744073709551616) + fv 0 1) % 340282366920938463463374607431768211456 = X / 340282366920938463463374607431768211456 + 1 := by unfold fv; omega
    rw [e2] at ad2
    have ad3 := R_add2 (D+3) wB.1 wB.2 wB.1 wB.2
    rw [fv_dm, show (B + B) % 340282366920938463463374607431768211456 = 2 * B by omega] at ad3
    have dv := R_div4 (D+1) (X + B) (2 * B) (by omega) (by omega) (by omega) (by omega)
    have q0 : 0 ≤ (X + B) / (2 * B) := Int.ediv_nonneg (by omega) (by omega)
    have q1 := Int.ediv_le_self (2 * B) (show 0 ≤ X + B by omega)
    have sg := R_signed D (!(decide (h1 < 0) == decide (h2 < 0))) ((X + B) / (2 * B)) q0 (by omega)
    rw [four_of] at sg dv
    generalize (X + B) / (2 * B) = Q at *
    generalize (X + B) % (2 * B) = Z at *
    generalize fitN (signI (!(decide (h1 < 0) == decide (h2 < 0))) Q) = N at *
    generalize fitE (signI (!(decide (h1 < 0) == decide (h2 < 0))) Q) = E at *
    rw [four_of] at sh
    by_cases c : 340282366920938463463374607431768211456 ≤ X % 340282366920938463463374607431768211456 + B
    · have cc : decide (340282366920938463463374607431768211456 ≤ X % 340282366920938463463374607431768211456 + B) = true := by simpa using c
      rw [cc] at ad
      have y1 : (X % 340282366920938463463374607431768211456 + B) % 340282366920938463463374607431768211456 / 18446744073709551616 = (X + B) / 18446744073709551616 % 18446744073709551616 := by omega
      have y2 : (X % 340282366920938463463374607431768211456 + B) % 340282366920938463463374607431768211456 % 18446744073709551616 = (X + B) % 18446744073709551616 := by omega
      have y3 : (X / 340282366920938463463374607431768211456 + 1) / 18446744073709551616 = (X + B) / 6277101735386680763835789423207666416102355444464034512896 := by omega
      have y4 : (X / 340282366920938463463374607431768211456 + 1) % 18446744073709551616 = (X + B) / 340282366920938463463374607431768211456 % 18446744073709551616 := by omega
      rw [y1, y2] at ad
      rw [y3, y4] at ad2
      clear hd s1 s2 a1 a2 n1 n2 k1 k2 b1 b2 e1 e2 c cc y1 y2 y3 y4 hX q0 q1 hz wB
      rw [ev_fn T76]; (try simp only [Nat.add_assoc, Nat.reduceAdd] at m1 m2 sh ad ad2 ad3 dv sg); obtain ⟨call, hcall⟩ : ∃ call, call = evFun T (D + 4) := ⟨_, rfl⟩; rw [← hcall] at m1 m2 sh ad ad2 ad3 dv sg ⊢; clear hcall; simp (maxSteps := 2000000) [ir76, m1, m2, hb, sh, ad, ad2, ad3, dv, sg, -Bool.and_eq_false_imp]
    · have cc : decide (340282366920938463463374607431768211456 ≤ X % 340282366920938463463374607431768211456 + B) = false := by simpa using c
      rw [cc] at ad
      have y1 : (X % 340282366920938463463374607431768211456 + B) % 340282366920938463463374607431768211456 / 18446744073709551616 = (X + B) / 18446744073709551616 % 18446744073709551616 := by omega
      have y2 : (X % 340282366920938463463374607431768211456 + B) % 340282366920938463463374607431768211456 % 18446744073709551616 = (X + B) % 18446744073709551616 := by omega
      have y3 : X / 6277101735386680763835789423207666416102355444464034512896 = (X + B) / 6277101735386680763835789423207666416102355444464034512896 := by omega
      have y4 : X / 340282366920938463463374607431768211456 % 18446744073709551616 = (X + B) / 340282366920938463463374607431768211456 % 18446744073709551616 := by omega
      rw [y1, y2] at ad
      rw [← y3, ← y4] at dv
      clear hd s1 s2 a1 a2 n1 n2 k1 k2 b1 b2 e1 e2 c cc y1 y2 y3 y4 hX q0 q1 hz wB
      rw [ev_fn T76]; (try simp only [Nat.add_assoc, Nat.reduceAdd] at m1 m2 sh ad ad3 dv sg); obtain ⟨call, hcall⟩ : ∃ call, call = evFun T (D + 4) := ⟨_, rfl⟩; rw [← hcall] at m1 m2 sh ad ad3 dv sg ⊢; clear hcall; simp (maxSteps := 2000000) [ir76, m1, m2, hb, sh, ad, ad3, dv, sg, -Bool.and_eq_false_imp]
theorem R_sqrt0 (D : Nat) {h1 l1 : Int} (e : decide (h1 < 0) = true) : evFun T (D+5) 75 [.agg [.int .i64 h1, .int .u64 l1]] [] =
    some (.agg [.int .i64 0, .int .u64 0, .int .i64 1], [], []) := by
  rw [ev_fn T75]; simp (maxSteps := 2000000) [ir75, e]
theorem R_sqrt1 (D : Nat) {h1 l1 A S : Int} (e : decide (h1 < 0) = false) (m1 : evFun T (D+4) 55 [.agg [.int .i64 h1, .int .u64 l1]] [] = some (.agg [.int .u64 (A / 18446744073709551616), .int .u64 (A % 18446744073709551616)], [], []))
    (sh : evFun T (D+4) 134 [.agg [.int .u64 0, .int .u64 0, .int .u64 (A / 18446744073709551616), .int .u64 (A % 18446744073709551616)], .c (.int .i64 64)] [] = some (.agg [.int .u64 0, .int .u64 (A / 18446744073709551616), .int .u64 (A % 18446744073709551616), .int .u64 0], [], []))
    (rt : evFun T (D+4) 133 [.agg [.int .u64 0, .int .u64 (A / 18446744073709551616), .int .u64 (A % 18446744073709551616), .int .u64 0]] [] = some (.agg [.int .u64 (S / 18446744073709551616), .int .u64 (S % 18446744073709551616)], [], []))
    (sg : evFun T (D+4) 128 [.c (.bool false), .agg [.int .u64 0, .int .u64 0, .int .u64 (S / 18446744073709551616), .int .u64 (S % 18446744073709551616)]] [] = some (.agg [.int .i64 (S / 18446744073709551616), .int .u64 (S % 18446744073709551616), .int .i64 0], [], [])) :
    evFun T (D+5) 75 [.agg [.int .i64 h1, .int .u64 l1]] [] = some (.agg [.int .i64 (S / 18446744073709551616), .int .u64 (S % 18446744073709551616), .int .i64 0], [], []) := by
  rw [ev_fn T75]; (try simp only [Nat.add_assoc, Nat.reduceAdd] at m1 sh rt sg); obtain ⟨call, hcall⟩ : ∃ call, call = evFun T (D + 4) := ⟨_, rfl⟩; rw [← hcall] at m1 sh rt sg ⊢; clear hcall; simp (maxSteps := 2000000) [ir75, e, m1, sh, rt, sg]
theorem R_signed_nn (D : Nat) (S : Int) (h0 : 0 ≤ S) (h1 : S < 170141183460469231731687303715884105728) : evFun T (D+4) 128 [.c (.bool false), .agg [.int .u64 0, .int .u64 0, .int .u64 (S / 18446744073709551616), .int .u64 (S % 18446744073709551616)]] [] = some (.agg [.int .i64 (S / 18446744073709551616), .int .u64 (S % 18446744073709551616), .int .i64 0], [], []) := by
  have sg := R_signed D false S h0 (by omega)
  have e : signI false S = S := by unfold signI; simp
  have f := fit_ok (x := S) (by omega)
  rw [wide_four S (by omega), e, f.1, f.2] at sg
  exact sg
theorem R_sqrt (D : Nat) {h1 l1 : Int} (k1 : okM h1 l1) : evFun T (D+5) 75 [.agg [.int .i64 h1, .int .u64 l1]] [] =
    some (.agg [.int .i64 (rootI (fv h1 l1) / 18446744073709551616), .int .u64 (rootI (fv h1 l1) % 18446744073709551616), .int .i64 (rootE (fv h1 l1))], [], []) := by
  have b1 := okM_fv k1
  have m1 := R_mag D k1
  have s1 : decide (h1 < 0) = decide (fv h1 l1 < 0) := by unfold okM at k1; unfold fv; congr 1; simp; omega
  by_cases h : fv h1 l1 < 0
  · have e : decide (fv h1 l1 < 0) = true := by simpa using h
    rw [← s1] at e
    have q1 : rootI (fv h1 l1) = 0 := by unfold rootI; rw [if_pos h]
    have q2 : rootE (fv h1 l1) = 1 := by unfold rootE; rw [if_pos h]
    rw [q1, q2, R_sqrt0 D e]
    rfl
  · have e : decide (fv h1 l1 < 0) = false := by simpa using h
    rw [← s1] at e
    have q1 : rootI (fv h1 l1) = sqrtI (fv h1 l1 * 18446744073709551616) := by unfold rootI; rw [if_neg h]
    have q2 : rootE (fv h1 l1) = 0 := by unfold rootE; rw [if_neg h]
    rw [q1, q2]
    rw [absI_of (by omega)] at m1
    generalize fv h1 l1 = A at *
    have w := inW_of_lt (x := A) (by omega) (by omega)
    have sh := R_shl64 (D+2) 0 0 (A / 18446744073709551616) (A % 18446744073709551616) (by unfold inW; omega) (by unfold inW; omega) w.1 w.2
    have f : fourV (A * 18446744073709551616) = .agg [.int .u64 0, .int .u64 (A / 18446744073709551616), .int .u64 (A % 18446744073709551616), .int .u64 0] := by
      unfold fourV
      rw [show A * 18446744073709551616 / 6277101735386680763835789423207666416102355444464034512896 = 0 by omega, show A * 18446744073709551616 / 340282366920938463463374607431768211456 % 18446744073709551616 = A / 18446744073709551616 by omega, show A * 18446744073709551616 / 18446744073709551616 % 18446744073709551616 = A % 18446744073709551616 by omega, show A * 18446744073709551616 % 18446744073709551616 = 0 by omega]
    have rt := R_root D (A * 18446744073709551616) (by omega) (by omega)
    rw [f] at rt
    have r0 := (sqrtI_spec (A * 18446744073709551616) (by omega) (by omega)).1
    have r1 := sqrtI_lt (a := A * 18446744073709551616) (r := 79228162514264337593543950336) (by omega) (by omega) (by omega) (by omega)
    generalize sqrtI (A * 18446744073709551616) = S at *
    exact R_sqrt1 D e m1 sh rt (R_signed_nn D S r0 (by omega))
theorem R_sub (D : Nat) {h1 l1 h2 l2 : Int} (k1 : okM h1 l1) (k2 : okM h2 l2) : evFun T (D+6) 53 [.agg [.int .i64 h1, .int .u64 l1], .agg [.int .i64 h2, .int .u64 l2]] [] =
    some (.agg [.int .i64 (fitN (fv h1 l1 - fv h2 l2) / 18446744073709551616), .int .u64 (fitN (fv h1 l1 - fv h2 l2) % 18446744073709551616), .int .i64 (fitE (fv h1 l1 - fv h2 l2))], [], []) := by
  have x := R_neg (D+2) k2
  have y := R_add D k1 (okM_neg k2)
  rw [fv_dm, ← Int.sub_eq_add_neg] at y
  generalize fv h1 l1 - fv h2 l2 = A at *
  generalize fv h2 l2 = B at *
  rw [ev_fn T53]; (try simp only [Nat.add_assoc, Nat.reduceAdd] at x y); obtain ⟨call, hcall⟩ : ∃ call, call = evFun T (D + 5) := ⟨_, rfl⟩; rw [← hcall] at x y ⊢; clear hcall; simp (maxSteps := 2000000) [ir53, x, y]
theorem R_both (D : Nat) (X Y : Int) : evFun T (D+1) 70 [.agg [.int .i64 (fitN X / 18446744073709551616), .int .u64 (fitN X % 18446744073709551616), .int .i64 (fitE X)], .agg [.int .i64 (fitN Y / 18446744073709551616), .int .u64 (fitN Y % 18446744073709551616), .int .i64 (fitE Y)]] [] =
    some (.agg [.int .i64 (both1 X Y / 18446744073709551616), .int .u64 (both1 X Y % 18446744073709551616), .int .i64 (both1 Y X / 18446744073709551616), .int .u64 (both1 Y X % 18446744073709551616), .int .i64 (bothE X Y)], [], []) := by
  by_cases h1 : fitE X = 0
  · by_cases h2 : fitE Y = 0
    · have e1 : both1 X Y = X := by unfold both1; rw [if_pos ⟨h1, h2⟩]
      have e2 : both1 Y X = Y := by unfold both1; rw [if_pos ⟨h2, h1⟩]
      have e3 : bothE X Y = 0 := bothE_zero.2 ⟨h1, h2⟩
      rw [e1, e2, e3, h1, h2, fitN_of h1, fitN_of h2]
      rw [ev_fn T70]; simp (maxSteps := 2000000) [ir70]
    · have e1 : both1 X Y = 0 := by unfold both1; rw [if_neg (by simp [h2])]
      have e2 : both1 Y X = 0 := by unfold both1; rw [if_neg (by simp [h2])]
      have e3 : bothE X Y = fitE Y := by unfold bothE; rw [if_pos h1]
      have e4 : (fitE Y != 0) = true := by simpa using h2
      rw [e1, e2, e3, h1]
      rw [ev_fn T70]; simp (maxSteps := 2000000) [ir70, e4]
  · have e1 : both1 X Y = 0 := by unfold both1; rw [if_neg (by simp [h1])]
    have e2 : both1 Y X = 0 := by unfold both1; rw [if_neg (by simp [h1])]
    have e3 : bothE X Y = fitE X := by unfold bothE; rw [if_neg h1]
    have e4 : (fitE X != 0) = true := by simpa using h1
    rw [e1, e2, e3]
    rw [ev_fn T70]; simp (maxSteps := 2000000) [ir70, e4]
variable {x1 x2 y1 y2 z1 z2 w1 w2 : Int}
theorem R_vadd (D : Nat) (k1 : okM x1 x2) (k2 : okM y1 y2) (k3 : okM z1 z2) (k4 : okM w1 w2) : evFun T (D+6) 31 [.agg [.int .i64 x1, .int .u64 x2, .int .i64 y1, .int .u64 y2], .agg [.int .i64 z1, .int .u64 z2, .int .i64 w1, .int .u64 w2]] [] =
      some (.agg [.int .i64 (both1 (fv x1 x2 + fv z1 z2) (fv y1 y2 + fv w1 w2) / 18446744073709551616), .int .u64 (both1 (fv x1 x2 + fv z1 z2) (fv y1 y2 + fv w1 w2) % 18446744073709551616), .int .i64 (both1 (fv y1 y2 + fv w1 w2) (fv x1 x2 + fv z1 z2) / 18446744073709551616), .int .u64 (both1 (fv y1 y2 + fv w1 w2) (fv x1 x2 + fv z1 z2) % 18446744073709551616), .int .i64 (bothE (fv x1 x2 + fv z1 z2) (fv y1 y2 + fv w1 w2))], [], []) := by
  have a := R_add D k1 k3
  have b := R_add D k2 k4
  have c := R_both (D+4) (fv x1 x2 + fv z1 z2) (fv y1 y2 + fv w1 w2)
  rw [ev_fn T31]; (try simp only [Nat.add_assoc, Nat.reduceAdd] at a b c); obtain ⟨call, hcall⟩ : ∃ call, call = evFun T (D + 5) := ⟨_, rfl⟩; rw [← hcall] at a b c ⊢; clear hcall; simp (maxSteps := 2000000) [ir31, a, b, c]
theorem R_vsub (D : Nat) (k1 : okM x1 x2) (k2 : okM y1 y2) (k3 : okM z1 z2) (k4 : okM w1 w2) : evFun T (D+7) 33 [.agg [.int .i64 x1, .int .u64 x2, .int .i64 y1, .int .u64 y2], .agg [.int .i64 z1, .int .u64 z2, .int .i64 w1, .int .u64 w2]] [] =
      some (.agg [.int .i64 (both1 (fv x1 x2 - fv z1 z2) (fv y1 y2 - fv w1 w2) / 18446744073709551616), .int .u64 (both1 (fv x1 x2 - fv z1 z2) (fv y1 y2 - fv w1 w2) % 18446744073709551616), .int .i64 (both1 (fv y1 y2 - fv w1 w2) (fv x1 x2 - fv z1 z2) / 18446744073709551616), .int .u64 (both1 (fv y1 y2 - fv w1 w2) (fv x1 x2 - fv z1 z2) % 18446744073709551616), .int .i64 (bothE (fv x1 x2 - fv z1 z2) (fv y1 y2 - fv w1 w2))], [], []) := by
  have a := R_sub D k1 k3
  have b := R_sub D k2 k4
  have c := R_both (D+5) (fv x1 x2 - fv z1 z2) (fv y1 y2 - fv w1 w2)
  rw [ev_fn T33]; (try simp only [Nat.add_assoc, Nat.reduceAdd] at a b c); obtain ⟨call, hcall⟩ : ∃ call, call = evFun T (D + 6) := ⟨_, rfl⟩; rw [← hcall] at a b c ⊢; clear hcall; simp (maxSteps := 2000000) [ir33, a, b, c]
theorem R_scale (D : Nat) (k1 : okM x1 x2) (k2 : okM y1 y2) (k3 : okM z1 z2) : evFun T (D+6) 77 [.agg [.int .i64 x1, .int .u64 x2, .int .i64 y1, .int .u64 y2], .agg [.int .i64 z1, .int .u64 z2]] [] =
      some (.agg [.int .i64 (both1 (mulI (fv x1 x2) (fv z1 z2)) (mulI (fv y1 y2) (fv z1 z2)) / 18446744073709551616), .int .u64 (both1 (mulI (fv x1 x2) (fv z1 z2)) (mulI (fv y1 y2) (fv z1 z2)) % 18446744073709551616), .int .i64 (both1 (mulI (fv y1 y2) (fv z1 z2)) (mulI (fv x1 x2) (fv z1 z2)) / 18446744073709551616), .int .u64 (both1 (mulI (fv y1 y2) (fv z1 z2)) (mulI (fv x1 x2) (fv z1 z2)) % 18446744073709551616), .int .i64 (bothE (mulI (fv x1 x2) (fv z1 z2)) (mulI (fv y1 y2) (fv z1 z2)))], [], []) := by
  have a := R_mul D k1 k3
  have b := R_mul D k2 k3
  have c := R_both (D+4) (mulI (fv x1 x2) (fv z1 z2)) (mulI (fv y1 y2) (fv z1 z2))
  rw [ev_fn T77]; (try simp only [Nat.add_assoc, Nat.reduceAdd] at a b c); obtain ⟨call, hcall⟩ : ∃ call, call = evFun T (D + 5) := ⟨_, rfl⟩; rw [← hcall] at a b c ⊢; clear hcall; simp (maxSteps := 2000000) [ir77, a, b, c]
theorem R_dot (D : Nat) (k1 : okM x1 x2) (k2 : okM y1 y2) (k3 : okM z1 z2) (k4 : okM w1 w2) : evFun T (D+6) 130 [.agg [.int .i64 x1, .int .u64 x2, .int .i64 y1, .int .u64 y2], .agg [.int .i64 z1, .int .u64 z2, .int .i64 w1, .int .u64 w2]] [] =
      some (.agg [.int .i64 (dotN (fv x1 x2) (fv y1 y2) (fv z1 z2) (fv w1 w2) / 18446744073709551616), .int .u64 (dotN (fv x1 x2) (fv y1 y2) (fv z1 z2) (fv w1 w2) % 18446744073709551616), .int .i64 (dotE (fv x1 x2) (fv y1 y2) (fv z1 z2) (fv w1 w2))], [], []) := by
  have a := R_mul D k1 k3
  have b := R_mul D k2 k4
  have c := R_both (D+4) (mulI (fv x1 x2) (fv z1 z2)) (mulI (fv y1 y2) (fv w1 w2))
  unfold dotE dotN
  generalize mulI (fv x1 x2) (fv z1 z2) = X at *
  generalize mulI (fv y1 y2) (fv w1 w2) = Y at *
  have h2 := R_add D (okM_both X Y) (okM_both Y X)
  rw [fv_dm, fv_dm] at h2
  by_cases e : bothE X Y = 0
  · unfold doE doN
    rw [if_pos e, if_pos e]
    rw [e] at c
    rw [ev_fn T130]; (try simp only [Nat.add_assoc, Nat.reduceAdd] at a b c h2); obtain ⟨call, hcall⟩ : ∃ call, call = evFun T (D + 5) := ⟨_, rfl⟩; rw [← hcall] at a b c h2 ⊢; clear hcall; simp (maxSteps := 2000000) [ir130, a, b, c, h2]
  · have e4 : (bothE X Y != 0) = true := by simpa using e
    unfold doE doN
    rw [if_neg e, if_neg e]
    rw [ev_fn T130]; (try simp only [Nat.add_assoc, Nat.reduceAdd] at a b c h2); obtain ⟨call, hcall⟩ : ∃ call, call = evFun T (D + 5) := ⟨_, rfl⟩; rw [← hcall] at a b c h2 ⊢; clear hcall; simp (maxSteps := 2000000) [ir130, a, b, c, e4]
theorem R_len2 (D : Nat) (k1 : okM x1 x2) (k2 : okM y1 y2) : evFun T (D+7) 73 [.agg [.int .i64 x1, .int .u64 x2, .int .i64 y1, .int .u64 y2]] [] =
      some (.agg [.int .i64 (len2N (fv x1 x2) (fv y1 y2) / 18446744073709551616), .int .u64 (len2N (fv x1 x2) (fv y1 y2) % 18446744073709551616), .int .i64 (len2E (fv x1 x2) (fv y1 y2))], [], []) := by
  have h := R_dot D k1 k2 k1 k2
  rw [show dotN (fv x1 x2) (fv y1 y2) (fv x1 x2) (fv y1 y2) = len2N (fv x1 x2) (fv y1 y2) from rfl, show dotE (fv x1 x2) (fv y1 y2) (fv x1 x2) (fv y1 y2) = len2E (fv x1 x2) (fv y1 y2) from rfl] at h
  rw [ev_fn T73]; (try simp only [Nat.add_assoc, Nat.reduceAdd] at h); obtain ⟨call, hcall⟩ : ∃ call, call = evFun T (D + 6) := ⟨_, rfl⟩; rw [← hcall] at h ⊢; clear hcall; simp (maxSteps := 2000000) [ir73, h]
end Go.Ab

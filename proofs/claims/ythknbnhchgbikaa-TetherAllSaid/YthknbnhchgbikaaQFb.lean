/- Words for this claim: an evaluator of the program's functions, and what they come to. -/
import Derived.Test.YthknbnhchgbikaaQFa
set_option linter.all false
namespace Go.Ab
attribute [local simp] runFn args0 e_skip e_reg regC_some e_seq seqC_n seqC_e seqC_r e_cond condC_t condC_f e_block e_loop e_exit e_ret nextC_n nextC_e nextC_r nextK_n nextK_e nextK_r evReg evOps evOp wants fp St.ev St.get St.set St.sets St.put St.apply St.pre preK inB lk up del hits V.cells V.cellsG allPlain Cell.plain pure1 keysOf okUn noK Ev.apart meets mkV splice fillC binC unC mmC eqCs eqC resVs resV one export1 V.keys V.keys1 outKeys valsKeys cellsKeys Cell.keys Blk.keys elsKeys fpCall fpCallG noTup reach getAll outW newW names srcs capsOf onesOf slB rowsOf V.ren V.ren1 Cell.ren Loc.ren locsRen Blk.ren inR outR place nm St.sweep swept St.kill killR lmap delAll St.trim reachL expR ownGet b2i_le wrap_u64 wrap_i64 bits_u64 bits_i64 or_u64 and_u64 Int.fdiv_eq_ediv_of_nonneg word mmC hits
def twoV (a : Int) : V := .agg [.int .u64 (a / 18446744073709551616), .int .u64 (a % 18446744073709551616)]
def inTwo (a : Int) : Prop := 0 ≤ a ∧ a < 340282366920938463463374607431768211456
theorem ev_add (D : Nat) (a b : Int) (ha : inTwo a) (hb : inTwo b) : evFun T (D+1) 113 [twoV a, twoV b] [] = some (.tup [twoV ((a + b) % 340282366920938463463374607431768211456), .c (.bool (decide (340282366920938463463374607431768211456 ≤ a + b)))], [], []) := by
  unfold inTwo at ha hb
  rw [ev_fn T113]; simp (maxSteps := 2000000) [ir113, twoV]
  simp only [b2i_dec]
  by_cases h : (18446744073709551616 : Int) ≤ a % 18446744073709551616 + b % 18446744073709551616
  all_goals
    simp only [h, if_true, if_false]
    (repeat' apply And.intro) <;> (try split) <;> (try simp) <;> omega
theorem ev_sub (D : Nat) (a b : Int) (ha : inTwo a) (hb : inTwo b) : evFun T (D+1) 116 [twoV a, twoV b] [] = some (.tup [twoV ((a - b) % 340282366920938463463374607431768211456), .c (.bool (decide (a < b)))], [], []) := by
  unfold inTwo at ha hb
  rw [ev_fn T116]; simp (maxSteps := 2000000) [ir116, twoV]
  simp only [b2i_dec]
  by_cases h : a % 18446744073709551616 < b % 18446744073709551616
  all_goals
    simp only [h, if_true, if_false]
    (repeat' apply And.intro) <;> (try split) <;> (try simp) <;> omega
theorem ev_list (D : Nat) (a b c d : Int) : evFun T (D+1) 161 [.agg [.int .u64 a, .int .u64 b, .int .u64 c, .int .u64 d]] [] = some (.agg [.int .u64 d, .int .u64 c, .int .u64 b, .int .u64 a], [], []) := by
  rw [ev_fn T161]; simp (maxSteps := 2000000) [ir161]
theorem ev_four (D : Nat) (a b c d : Int) : evFun T (D+1) 162 [.agg [.int .u64 a, .int .u64 b, .int .u64 c, .int .u64 d]] [] = some (.agg [.int .u64 d, .int .u64 c, .int .u64 b, .int .u64 a], [], []) := by
  rw [ev_fn T162]; simp (maxSteps := 2000000) [ir162]
theorem ev_wide (D : Nat) (a b : Int) : evFun T (D+1) 115 [.agg [.int .u64 a, .int .u64 b]] [] = some (.agg [.int .u64 0, .int .u64 0, .int .u64 a, .int .u64 b], [], []) := by
  rw [ev_fn T115]; simp (maxSteps := 2000000) [ir115]
theorem inW_mod {a : Int} (h : inW a) : a % 18446744073709551616 = a := by unfold inW at h; omega
theorem inW_hi {a : Int} (h : inW a) : a / 2 / 9223372036854775808 = 0 := by unfold inW at h; omega
theorem orI_z {a : Int} (h : inW a) : orI a 0 = a := orI_zero a h.1
theorem orI_00 : orI 0 0 = 0 := rfl
theorem up_out (a : Int) : a * 2 % 18446744073709551616 * 9223372036854775808 % 18446744073709551616 = 0 := by omega
theorem ev_shl64 (D : Nat) (a b c d : Int) (ha : inW a) (hb : inW b) (hc : inW c) (hd : inW d) : evFun T (D+2) 122 [.agg [.int .u64 a, .int .u64 b, .int .u64 c, .int .u64 d], .c (.int .i64 64)] [] = some (.agg [.int .u64 b, .int .u64 c, .int .u64 d, .int .u64 0], [], []) := by
  rw [ev_fn T122]; simp (maxSteps := 2000000) [ir122, ir122_l0, ir122_t0, ir122_x0, ev_list, ev_four, loopC_step, inW_mod, inW_hi, orI_z, hb, hc, hd]
theorem ev_shl63 (D : Nat) : evFun T (D+2) 122 [.agg [.int .u64 0, .int .u64 0, .int .u64 0, .int .u64 1], .c (.int .i64 63)] [] = some (.agg [.int .u64 0, .int .u64 0, .int .u64 0, .int .u64 9223372036854775808], [], []) := by
  rw [ev_fn T122]; simp (maxSteps := 2000000) [ir122, ir122_l0, ir122_t0, ir122_x0, ev_list, ev_four, loopC_step, orI_00]

theorem ev_shl0 (D : Nat) : evFun T (D+2) 122 [.agg [.int .u64 0, .int .u64 0, .int .u64 0, .int .u64 1], .c (.int .i64 0)] [] = some (.agg [.int .u64 0, .int .u64 0, .int .u64 0, .int .u64 1], [], []) := by
  rw [ev_fn T122]; simp (maxSteps := 2000000) [ir122, ir122_l0, ir122_t0, ir122_x0, ev_list, ev_four, loopC_step, orI_00]

theorem ev_shr64 (D : Nat) (a b c d : Int) (ha : inW a) (hb : inW b) (hc : inW c) : evFun T (D+2) 118 [.agg [.int .u64 a, .int .u64 b, .int .u64 c, .int .u64 d], .c (.int .i64 64)] [] = some (.agg [.int .u64 0, .int .u64 a, .int .u64 b, .int .u64 c], [], []) := by
  rw [ev_fn T118]; simp (maxSteps := 2000000) [ir118, ir118_l0, ir118_t0, ir118_x0, ev_list, ev_four, loopC_step, inW_mod, up_out, orI_z, ha, hb, hc]
end Go.Ab

namespace Go.Ab
attribute [local simp] runFn args0 e_skip e_reg regC_some e_seq seqC_n seqC_e seqC_r e_cond condC_t condC_f e_block e_loop e_exit e_ret nextC_n nextC_e nextC_r nextK_n nextK_e nextK_r evReg evOps evOp wants fp St.ev St.get St.set St.sets St.put St.apply St.pre preK inB lk up del hits V.cells V.cellsG allPlain Cell.plain pure1 keysOf okUn noK Ev.apart meets mkV splice fillC binC unC mmC eqCs eqC resVs resV one export1 V.keys V.keys1 outKeys valsKeys cellsKeys Cell.keys Blk.keys elsKeys fpCall fpCallG noTup reach getAll outW newW names srcs capsOf onesOf slB rowsOf V.ren V.ren1 Cell.ren Loc.ren locsRen Blk.ren inR outR place nm St.sweep swept St.kill killR lmap delAll St.trim reachL expR ownGet b2i_le wrap_u64 wrap_i64 bits_u64 bits_i64 or_u64 and_u64 Int.fdiv_eq_ediv_of_nonneg word mmC hits
def W127 : Int := 170141183460469231731687303715884105728
def fixV (a : Int) : V := .agg [.int .i64 (a / 18446744073709551616), .int .u64 (a % 18446744073709551616)]
def inFix (a : Int) : Prop := -170141183460469231731687303715884105728 ≤ a ∧ a < 170141183460469231731687303715884105728
def sizeV (n : Int) (below : Bool) : V := .agg [.int .u64 (n / 18446744073709551616), .int .u64 (n % 18446744073709551616), .bool below]
theorem ev_add' (D : Nat) {h1 l1 h2 l2 : Int} (x y : Int) (hx : inTwo x) (hy : inTwo y) (e1 : h1 = x / 18446744073709551616) (e2 : l1 = x % 18446744073709551616) (e3 : h2 = y / 18446744073709551616) (e4 : l2 = y % 18446744073709551616) :
    evFun T (D+1) 113 [.agg [.int .u64 h1, .int .u64 l1], .agg [.int .u64 h2, .int .u64 l2]] [] = some (.tup [twoV ((x + y) % 340282366920938463463374607431768211456), .c (.bool (decide (340282366920938463463374607431768211456 ≤ x + y)))], [], []) := by
  subst e1; subst e2; subst e3; subst e4; exact ev_add D x y hx hy
theorem ev_sub' (D : Nat) {h1 l1 h2 l2 : Int} (x y : Int) (hx : inTwo x) (hy : inTwo y) (e1 : h1 = x / 18446744073709551616) (e2 : l1 = x % 18446744073709551616) (e3 : h2 = y / 18446744073709551616) (e4 : l2 = y % 18446744073709551616) :
    evFun T (D+1) 116 [.agg [.int .u64 h1, .int .u64 l1], .agg [.int .u64 h2, .int .u64 l2]] [] = some (.tup [twoV ((x - y) % 340282366920938463463374607431768211456), .c (.bool (decide (x < y)))], [], []) := by
  subst e1; subst e2; subst e3; subst e4; exact ev_sub D x y hx hy
theorem ev_of (D : Nat) (a : Int) (ha : inFix a) : evFun T (D+2) 112 [fixV a] [] = some (sizeV (absI a) (decide (a < 0)), [], []) := by
  unfold inFix at ha
  have hs := ev_sub' D (h1 := 0) (l1 := 0) (h2 := a / 18446744073709551616 % 18446744073709551616) (l2 := a % 18446744073709551616) 0 (a % 340282366920938463463374607431768211456) (by unfold inTwo; omega) (by unfold inTwo; omega) (by omega) (by omega) (by omega) (by omega)
  by_cases h : a < 0
  · have e : (a / 18446744073709551616 / 9223372036854775808 == 0) = false := by simp; omega
    rw [ev_fn T112]; simp (maxSteps := 2000000) [ir112, fixV, sizeV, absI, h, e, hs, twoV]
    omega
  · have e : (a / 18446744073709551616 / 9223372036854775808 == 0) = true := by simp; omega
    rw [ev_fn T112]; simp (maxSteps := 2000000) [ir112, fixV, sizeV, absI, h, e]
    omega
theorem ev_fix (D : Nat) (n : Int) (b : Bool) (hn : 0 ≤ n ∧ n ≤ 170141183460469231731687303715884105728) : evFun T (D+2) 117 [sizeV n b] [] = some (fixV (if b then -n else if n = 170141183460469231731687303715884105728 then -n else n), [], []) := by
  have hs := ev_sub' D (h1 := 0) (l1 := 0) (h2 := n / 18446744073709551616) (l2 := n % 18446744073709551616) 0 n (by unfold inTwo; omega) (by unfold inTwo; omega) (by omega) (by omega) (by omega) (by omega)
  cases b with
  | true =>
    rw [ev_fn T117]; simp (maxSteps := 2000000) [ir117, fixV, sizeV, hs, twoV]
    omega
  | false =>
    rw [ev_fn T117]; simp (maxSteps := 2000000) [ir117, fixV, sizeV]
    split <;> omega
end Go.Ab

namespace Go.Ab
attribute [local simp] runFn args0 e_skip e_reg regC_some e_seq seqC_n seqC_e seqC_r e_cond condC_t condC_f e_block e_loop e_exit e_ret nextC_n nextC_e nextC_r nextK_n nextK_e nextK_r evReg evOps evOp wants fp St.ev St.get St.set St.sets St.put St.apply St.pre preK inB lk up del hits V.cells V.cellsG allPlain Cell.plain pure1 keysOf okUn noK Ev.apart meets mkV splice fillC binC unC mmC eqCs eqC resVs resV one export1 V.keys V.keys1 outKeys valsKeys cellsKeys Cell.keys Blk.keys elsKeys fpCall fpCallG noTup reach getAll outW newW names srcs capsOf onesOf slB rowsOf V.ren V.ren1 Cell.ren Loc.ren locsRen Blk.ren inR outR place nm St.sweep swept St.kill killR lmap delAll St.trim reachL expR ownGet b2i_le wrap_u64 wrap_i64 bits_u64 bits_i64 or_u64 and_u64 Int.fdiv_eq_ediv_of_nonneg word mmC hits
theorem blen_nonneg (n : Int) : 0 ≤ blen n := by unfold blen; split <;> omega
theorem blen_le {n : Int} (h : inW n) : blen n ≤ 64 := by
  unfold blen inW at *
  split
  · omega
  · rename_i h0
    have : Nat.log2 n.toNat < 64 := (Nat.log2_lt h0).2 (by omega)
    omega
theorem blen_pos {n : Int} (h : inW n) (h0 : n ≠ 0) : 0 < blen n := by unfold blen inW at *; split <;> omega
theorem blen_big {n : Int} (h : inW n) : 63 < blen n ↔ 9223372036854775808 ≤ n := by
  unfold blen inW at *
  split
  · omega
  · rename_i h0
    have : Nat.log2 n.toNat < 63 ↔ n.toNat < 2 ^ 63 := Nat.log2_lt h0
    omega
theorem ev_blen (D : Nat) (n : Int) : evFun T (D+1) 185 [.c (.int .u64 n)] [] = some (.c (.int .i64 (blen n)), [], []) := by
  rw [ev_prim T185]; rfl
theorem blen_wrap {n k : Int} (h : inW n) (hk : 0 ≤ k ∧ k ≤ 3) : (k * 64 + blen n + 9223372036854775808) % 18446744073709551616 - 9223372036854775808 = k * 64 + blen n := by
  have := blen_le h; have := blen_nonneg n; omega
def lenI (a b c d : Int) : Int := if a ≠ 0 then 192 + blen a else if b ≠ 0 then 128 + blen b else if c ≠ 0 then 64 + blen c else blen d
theorem len_0 (D : Nat)  : evFun T (D+2) 159 [.agg [.int .u64 0, .int .u64 0, .int .u64 0, .int .u64 0]] [] = some (.c (.int .i64 (blen 0)), [], []) := by
  rw [ev_fn T159]; simp (maxSteps := 2000000) [ir159, ir159_l0, ir159_t0, ir159_x0, loopC_step]
  simp [blen]
theorem len_1 (D : Nat) (d : Int) (hd : inW d) (h : d ≠ 0) : evFun T (D+2) 159 [.agg [.int .u64 0, .int .u64 0, .int .u64 0, .int .u64 d]] [] = some (.c (.int .i64 (blen d)), [], []) := by
  have q := blen_le hd; have p := blen_nonneg d
  have e : (d != 0) = true := by simpa using h
  rw [ev_fn T159]; simp (maxSteps := 2000000) [ir159, ir159_l0, ir159_t0, ir159_x0, loopC_step, ev_blen, e]
  omega
theorem len_2 (D : Nat) (c d : Int) (hd : inW c) (h : c ≠ 0) : evFun T (D+2) 159 [.agg [.int .u64 0, .int .u64 0, .int .u64 c, .int .u64 d]] [] = some (.c (.int .i64 (64 + blen c)), [], []) := by
  have q := blen_le hd; have p := blen_nonneg c
  have e : (c != 0) = true := by simpa using h
  rw [ev_fn T159]; simp (maxSteps := 2000000) [ir159, ir159_l0, ir159_t0, ir159_x0, loopC_step, ev_blen, e]
  omega
theorem len_3 (D : Nat) (b c d : Int) (hd : inW b) (h : b ≠ 0) : evFun T (D+2) 159 [.agg [.int .u64 0, .int .u64 b, .int .u64 c, .int .u64 d]] [] = some (.c (.int .i64 (128 + blen b)), [], []) := by
  have q := blen_le hd; have p := blen_nonneg b
  have e : (b != 0) = true := by simpa using h
  rw [ev_fn T159]; simp (maxSteps := 2000000) [ir159, ir159_l0, ir159_t0, ir159_x0, loopC_step, ev_blen, e]
  omega
theorem len_4 (D : Nat) (a b c d : Int) (hd : inW a) (h : a ≠ 0) : evFun T (D+2) 159 [.agg [.int .u64 a, .int .u64 b, .int .u64 c, .int .u64 d]] [] = some (.c (.int .i64 (192 + blen a)), [], []) := by
  have q := blen_le hd; have p := blen_nonneg a
  have e : (a != 0) = true := by simpa using h
  rw [ev_fn T159]; simp (maxSteps := 2000000) [ir159, ir159_l0, ir159_t0, ir159_x0, loopC_step, ev_blen, e]
  omega
theorem ev_len (D : Nat) (a b c d : Int) (ha : inW a) (hb : inW b) (hc : inW c) (hd : inW d) : evFun T (D+2) 159 [.agg [.int .u64 a, .int .u64 b, .int .u64 c, .int .u64 d]] [] = some (.c (.int .i64 (lenI a b c d)), [], []) := by
  unfold lenI
  by_cases h1 : a = 0
  · rw [if_neg (by simpa using h1), h1]
    by_cases h2 : b = 0
    · rw [if_neg (by simpa using h2), h2]
      by_cases h3 : c = 0
      · rw [if_neg (by simpa using h3), h3]
        by_cases h4 : d = 0
        · rw [h4]; exact len_0 D
        · exact len_1 D d hd h4
      · rw [if_pos h3]; exact len_2 D c d hc h3
    · rw [if_pos h2]; exact len_3 D b c d hb h2
  · rw [if_pos h1]; exact len_4 D a b c d ha h1
theorem lenI_le {a b c d : Int} (ha : inW a) (hb : inW b) (hc : inW c) (hd : inW d) : 0 ≤ lenI a b c d ∧ lenI a b c d ≤ 256 := by
  have q1 := blen_le ha; have q2 := blen_le hb; have q3 := blen_le hc; have q4 := blen_le hd
  have p1 := blen_nonneg a; have p2 := blen_nonneg b; have p3 := blen_nonneg c; have p4 := blen_nonneg d
  unfold lenI
  repeat' split
  all_goals omega
theorem lenI_big {a b c d : Int} (ha : inW a) (hb : inW b) (hc : inW c) (hd : inW d) : 127 < lenI a b c d ↔ (a ≠ 0 ∨ b ≠ 0 ∨ 9223372036854775808 ≤ c) := by
  have q1 := blen_le ha; have q2 := blen_le hb; have q3 := blen_le hc; have q4 := blen_le hd
  have p1 := blen_nonneg a; have p2 := blen_nonneg b; have p3 := blen_nonneg c; have p4 := blen_nonneg d
  have r3 := blen_big hc
  have r1 := blen_pos ha; have r2 := blen_pos hb
  unfold inW at *
  unfold lenI
  repeat' split
  all_goals omega
theorem ev_told_ok (D : Nat) (n : Int) (b : Bool) (hn : 0 ≤ n ∧ n < 170141183460469231731687303715884105728) : evFun T (D+3) 114 [.agg [.int .u64 0, .int .u64 0, .int .u64 (n / 18446744073709551616), .int .u64 (n % 18446744073709551616)], .c (.bool b)] [] = some (.tup [fixV (if b then -n else n), .c (.int .i64 0)], [], []) := by
  have w1 : inW (n / 18446744073709551616) := by unfold inW; omega
  have w2 : inW (n % 18446744073709551616) := by unfold inW; omega
  have w0 : inW 0 := by unfold inW; omega
  have hl := ev_len D 0 0 _ _ w0 w0 w1 w2
  have hb := lenI_big w0 w0 w1 w2
  have e : decide (127 < lenI 0 0 (n / 18446744073709551616) (n % 18446744073709551616)) = false := by
    rw [decide_eq_false_iff_not, hb]; omega
  have hf := ev_fix D n b (by omega)
  simp only [sizeV] at hf
  have hne : n ≠ 170141183460469231731687303715884105728 := by omega
  rw [if_neg hne] at hf
  simp only [fixV] at hf
  cases b with
  | true => rw [ev_fn T114]; simp (maxSteps := 2000000) [ir114, hl, e, hf, fixV]
  | false => rw [ev_fn T114]; simp (maxSteps := 2000000) [ir114, hl, e, hf, fixV]
end Go.Ab

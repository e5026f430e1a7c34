/- Words for this claim: an evaluator of the program's functions, and what they come to. -/
import Derived.Test.YthknbnhchgbikaaQFl
set_option linter.all false
namespace Go.Ab
attribute [local simp] runFn args0 e_skip e_reg regC_some e_seq seqC_n seqC_e seqC_r e_cond condC_t condC_f e_block e_loop e_exit e_ret nextC_n nextC_e nextC_r nextK_n nextK_e nextK_r evReg evOps evOp wants fp St.ev St.get St.set St.sets St.put St.apply St.pre preK inB lk up del hits V.cells V.cellsG allPlain Cell.plain pure1 keysOf okUn noK Ev.apart meets mkV splice fillC binC unC mmC eqCs eqC resVs resV one export1 V.keys V.keys1 outKeys valsKeys cellsKeys Cell.keys Blk.keys elsKeys fpCall fpCallG noTup reach getAll outW newW names srcs capsOf onesOf slB rowsOf V.ren V.ren1 Cell.ren Loc.ren locsRen Blk.ren inR outR place nm St.sweep swept St.kill killR lmap delAll St.trim reachL expR ownGet b2i_le wrap_u64 wrap_i64 bits_u64 bits_i64 or_u64 and_u64 Int.fdiv_eq_ediv_of_nonneg word mmC hits
theorem R_shl65 (D : Nat) (x : Int) (h0 : 0 ≤ x) (h1 : x < 170141183460469231731687303715884105728) : evFun T (D+2) 134 [.agg [.int .u64 0, .int .u64 0, .int .u64 (x / 18446744073709551616), .int .u64 (x % 18446744073709551616)], .c (.int .i64 65)] [] = some (fourV (x * 36893488147419103232), [], []) := by
  have w := R_words D 0 0 (x / 18446744073709551616) (x % 18446744073709551616)
  have e1 : orI (x / 18446744073709551616 * 2 % 18446744073709551616) (x % 18446744073709551616 / 9223372036854775808 % 18446744073709551616) = x * 36893488147419103232 / 340282366920938463463374607431768211456 % 18446744073709551616 := by
    rw [orI_add _ _ 1 (by omega) (by omega) (by omega) (by omega)]; omega
  have e2 : x / 18446744073709551616 / 9223372036854775808 = x * 36893488147419103232 / 6277101735386680763835789423207666416102355444464034512896 := by omega
  have e3 : x % 18446744073709551616 * 2 % 18446744073709551616 = x * 36893488147419103232 / 18446744073709551616 % 18446744073709551616 := by omega
  have e4 : orI 0 (x / 18446744073709551616 / 9223372036854775808 % 18446744073709551616) = x * 36893488147419103232 / 6277101735386680763835789423207666416102355444464034512896 := by
    rw [show x / 18446744073709551616 / 9223372036854775808 % 18446744073709551616 = x / 18446744073709551616 / 9223372036854775808 by omega, e2]
    unfold orI; simp; omega
  have e5 : x * 2 % 18446744073709551616 = x * 36893488147419103232 / 18446744073709551616 % 18446744073709551616 := by omega
  have f := R_four D (x * 36893488147419103232 / 6277101735386680763835789423207666416102355444464034512896) (x * 36893488147419103232 / 340282366920938463463374607431768211456 % 18446744073709551616) (x * 36893488147419103232 / 18446744073709551616 % 18446744073709551616) 0
  have e6 : x * 36893488147419103232 % 18446744073709551616 = 0 := by omega
  unfold fourV
  rw [e6]
  rw [ev_fn T134]; (try simp only [Nat.add_assoc, Nat.reduceAdd] at w f); obtain ⟨call, hcall⟩ : ∃ call, call = evFun T (D + 1) := ⟨_, rfl⟩; rw [← hcall] at w f ⊢; clear hcall; simp (maxSteps := 2000000) [ir134, w, f, ir134_l0, ir134_t0, ir134_x0, loopC_step, List.replicate, maxRow, e1, e3, e4, e5]
theorem R_mul (D : Nat) {h1 l1 h2 l2 : Int} (k1 : okM h1 l1) (k2 : okM h2 l2) : evFun T (D+5) 74 [.agg [.int .i64 h1, .int .u64 l1], .agg [.int .i64 h2, .int .u64 l2]] [] =
    some (.agg [.int .i64 (fitN (mulI (fv h1 l1) (fv h2 l2)) / 18446744073709551616), .int .u64 (fitN (mulI (fv h1 l1) (fv h2 l2)) % 18446744073709551616), .int .i64 (fitE (mulI (fv h1 l1) (fv h2 l2)))], [], []) := by
  have m1 := R_mag D k1
  have m2 := R_mag D k2
  have b1 := okM_fv k1
  have b2 := okM_fv k2
  have s1 : decide (h1 < 0) = decide (fv h1 l1 < 0) := by unfold okM at k1; unfold fv; congr 1; simp; omega
  have s2 : decide (h2 < 0) = decide (fv h2 l2 < 0) := by unfold okM at k2; unfold fv; congr 1; simp; omega
  have a1 := absI_lt b1
  have a2 := absI_lt b2
  have n1 := absI_nonneg (fv h1 l1)
  have n2 := absI_nonneg (fv h2 l2)
  have w1 := inW_of_lt n1 (by omega)
  have w2 := inW_of_lt n2 (by omega)
  have mm := R_mul2 (D+1) _ _ _ _ w1.1 w1.2 w2.1 w2.2
  rw [fv_dm, fv_dm] at mm
  have pb := prod_bound n1 (show absI (fv h1 l1) ≤ 170141183460469231731687303715884105728 by omega) n2 (show absI (fv h2 l2) ≤ 170141183460469231731687303715884105728 by omega)
  have hd : mulI (fv h1 l1) (fv h2 l2) = signI (!(decide (fv h1 l1 < 0) == decide (fv h2 l2 < 0))) ((absI (fv h1 l1) * absI (fv h2 l2) + 9223372036854775808) / 18446744073709551616) := rfl
  rw [hd, ← s1, ← s2]
  generalize absI (fv h1 l1) * absI (fv h2 l2) = P at *
  have ad := R_add2 (D+3) (h1 := P / 18446744073709551616 % 18446744073709551616) (l1 := P % 18446744073709551616) (h2 := 0) (l2 := 9223372036854775808) (by unfold inW; omega) (by unfold inW; omega) (by unfold inW; omega) (by unfold inW; omega)
  have e1 : fv (P / 18446744073709551616 % 18446744073709551616) (P % 18446744073709551616) + fv 0 9223372036854775808 = P % 340282366920938463463374607431768211456 + 9223372036854775808 := by unfold fv; omega
  rw [e1] at ad
  have ad2 := R_add2 (D+3) (h1 := P / 6277101735386680763835789423207666416102355444464034512896) (l1 := P / 340282366920938463463374607431768211456 % 18446744073709551616) (h2 := 0) (l2 := 1) (by unfold inW; omega) (by unfold inW; omega) (by unfold inW; omega) (by unfold inW; omega)
  have e2 : (fv (P / 6277101735386680763835789423207666416102355444464034512896) (P / 340282366920938463463374607431768211456 % 18446744073709551616) + fv 0 1) % 340282366920938463463374607431768211456 = P / 340282366920938463463374607431768211456 + 1 := by unfold fv; omega
  rw [e2] at ad2
  have sg := R_signed D (!(decide (h1 < 0) == decide (h2 < 0))) ((P + 9223372036854775808) / 18446744073709551616) (by omega) (by omega)
  obtain ⟨Q, hQ⟩ : ∃ Q, Q = P + 9223372036854775808 := ⟨_, rfl⟩
  rw [← hQ] at sg ⊢
  have z0 : Q / 18446744073709551616 / 6277101735386680763835789423207666416102355444464034512896 = 0 := by omega
  have z1 : Q / 18446744073709551616 / 340282366920938463463374607431768211456 % 18446744073709551616 = Q / 6277101735386680763835789423207666416102355444464034512896 := by omega
  have z2 : Q / 18446744073709551616 / 18446744073709551616 % 18446744073709551616 = Q / 340282366920938463463374607431768211456 % 18446744073709551616 := by omega
  have z3 : Q / 18446744073709551616 % 18446744073709551616 = Q / 18446744073709551616 % 18446744073709551616 := rfl
  have sh := R_shr64 (D+2) (Q / 6277101735386680763835789423207666416102355444464034512896) (Q / 340282366920938463463374607431768211456 % 18446744073709551616) (Q / 18446744073709551616 % 18446744073709551616) (Q % 18446744073709551616) (by unfold inW; omega) (by unfold inW; omega) (by unfold inW; omega) (by unfold inW; omega)
  simp only [fourV, z0, z1, z2] at sg
  simp only [fourV] at mm
  generalize fitN (signI (!(decide (h1 < 0) == decide (h2 < 0))) (Q / 18446744073709551616)) = N at *
  generalize fitE (signI (!(decide (h1 < 0) == decide (h2 < 0))) (Q / 18446744073709551616)) = E at *
  clear hd s1 s2 a1 a2 n1 n2 w1 w2 k1 k2 b1 b2 e1 e2 z0 z1 z2 z3
  by_cases c : 340282366920938463463374607431768211456 ≤ P % 340282366920938463463374607431768211456 + 9223372036854775808
  · have cc : decide (340282366920938463463374607431768211456 ≤ P % 340282366920938463463374607431768211456 + 9223372036854775808) = true := by simpa using c
    rw [cc] at ad
    have y1 : (P % 340282366920938463463374607431768211456 + 9223372036854775808) % 340282366920938463463374607431768211456 / 18446744073709551616 = Q / 18446744073709551616 % 18446744073709551616 := by omega
    have y2 : (P % 340282366920938463463374607431768211456 + 9223372036854775808) % 340282366920938463463374607431768211456 % 18446744073709551616 = Q % 18446744073709551616 := by omega
    have y3 : (P / 340282366920938463463374607431768211456 + 1) / 18446744073709551616 = Q / 6277101735386680763835789423207666416102355444464034512896 := by omega
    have y4 : (P / 340282366920938463463374607431768211456 + 1) % 18446744073709551616 = Q / 340282366920938463463374607431768211456 % 18446744073709551616 := by omega
    rw [y1, y2] at ad
    rw [y3, y4] at ad2
    clear pb c cc y1 y2 y3 y4 hQ
    rw [ev_fn T74]; (try simp only [Nat.add_assoc, Nat.reduceAdd] at m1 m2 mm ad ad2 sh sg); obtain ⟨call, hcall⟩ : ∃ call, call = evFun T (D + 4) := ⟨_, rfl⟩; rw [← hcall] at m1 m2 mm ad ad2 sh sg ⊢; clear hcall; simp (maxSteps := 2000000) [ir74, m1, m2, mm, ad, ad2, sh, sg]
  · have cc : decide (340282366920938463463374607431768211456 ≤ P % 340282366920938463463374607431768211456 + 9223372036854775808) = false := by simpa using c
    rw [cc] at ad
    have y1 : (P % 340282366920938463463374607431768211456 + 9223372036854775808) % 340282366920938463463374607431768211456 / 18446744073709551616 = Q / 18446744073709551616 % 18446744073709551616 := by omega
    have y2 : (P % 340282366920938463463374607431768211456 + 9223372036854775808) % 340282366920938463463374607431768211456 % 18446744073709551616 = Q % 18446744073709551616 := by omega
    have y3 : P / 6277101735386680763835789423207666416102355444464034512896 = Q / 6277101735386680763835789423207666416102355444464034512896 := by omega
    have y4 : P / 340282366920938463463374607431768211456 % 18446744073709551616 = Q / 340282366920938463463374607431768211456 % 18446744073709551616 := by omega
    rw [y1, y2] at ad
    clear pb c cc y1 y2 hQ
    rw [← y3, ← y4] at sh sg
    rw [ev_fn T74]; (try simp only [Nat.add_assoc, Nat.reduceAdd] at m1 m2 mm ad sh sg); obtain ⟨call, hcall⟩ : ∃ call, call = evFun T (D + 4) := ⟨_, rfl⟩; rw [← hcall] at m1 m2 mm ad sh sg ⊢; clear hcall; simp (maxSteps := 2000000) [ir74, m1, m2, mm, ad, sh, sg]
end Go.Ab

namespace Go.Ab
attribute [local simp] runFn args0 e_skip e_reg regC_some e_seq seqC_n seqC_e seqC_r e_cond condC_t condC_f e_block e_loop e_exit e_ret nextC_n nextC_e nextC_r nextK_n nextK_e nextK_r evReg evOps evOp wants fp St.ev St.get St.set St.sets St.put St.apply St.pre preK inB lk up del hits V.cells V.cellsG allPlain Cell.plain pure1 keysOf okUn noK Ev.apart meets mkV splice fillC binC unC mmC eqCs eqC resVs resV one export1 V.keys V.keys1 outKeys valsKeys cellsKeys Cell.keys Blk.keys elsKeys fpCall fpCallG noTup reach getAll outW newW names srcs capsOf onesOf slB rowsOf V.ren V.ren1 Cell.ren Loc.ren locsRen Blk.ren inR outR place nm St.sweep swept St.kill killR lmap delAll St.trim reachL expR ownGet b2i_le wrap_u64 wrap_i64 bits_u64 bits_i64 or_u64 and_u64 Int.fdiv_eq_ediv_of_nonneg word mmC hits
theorem get4 {i : Nat} (h : i < 4) (a b c d : Int) : [[Cell.int .u64 a], [.int .u64 b], [.int .u64 c], [.int .u64 d]][i]? = some [.int .u64 (pick4 i a b c d)] := by
  match i, h with
  | 0, _ => rfl
  | 1, _ => rfl
  | 2, _ => rfl
  | 3, _ => rfl
theorem set4 {i : Nat} (h : i < 4) (a b c d x : Int) : [[Cell.int .u64 a], [.int .u64 b], [.int .u64 c], [.int .u64 d]].set i [.int .u64 x] = [[.int .u64 (if i = 0 then x else a)], [.int .u64 (if i = 1 then x else b)], [.int .u64 (if i = 2 then x else c)], [.int .u64 (if i = 3 then x else d)]] := by
  match i, h with
  | 0, _ => rfl
  | 1, _ => rfl
  | 2, _ => rfl
  | 3, _ => rfl
theorem R_bit (D : Nat) (N a b c d : Int) (i m : Nat) (h1 : N.tdiv 64 = i) (h2 : N.tmod 64 = m) (hi : i < 4) (hm : m < 64) (ha : inW a) (hb : inW b) (hc : inW c) (hd : inW d) :
    evFun T (D+2) 171 [.agg [.int .u64 d, .int .u64 c, .int .u64 b, .int .u64 a], .c (.int .i64 N)] [] = some (.c (.int .u64 (pick4 i a b c d / 2 ^ m % 2)), [], []) := by
  have w := R_words D d c b a
  have q := shr_in m (pick4_in (i := i) ha hb hc hd)
  have e1 := inW_mod q
  have e2 : andI (pick4 i a b c d / 2 ^ m) 1 = pick4 i a b c d / 2 ^ m % 2 := andI_one q.1
  have e3 := small_wrap hi
  have e4 := min_m hm
  have e5 := pow_pos' m
  have e6 := get4 hi a b c d
  have e7 : (i : Int) < 4 := by omega
  rw [ev_fn T171]; (try simp only [Nat.add_assoc, Nat.reduceAdd] at w); obtain ⟨call, hcall⟩ : ∃ call, call = evFun T (D + 1) := ⟨_, rfl⟩; rw [← hcall] at w ⊢; clear hcall; simp (maxSteps := 2000000) [ir171, w, h1, h2, hi, e1, e2, e3, e4, e5, e6, e7, -getElem?_pos, List.getElem?_cons_zero, List.getElem?_cons_succ]
set_option maxHeartbeats 8000000 in
set_option maxRecDepth 20000 in
theorem R_cmp4 (D : Nat) (a b c d e f g h : Int) (hb : inW b) (hc : inW c) (hd : inW d) (hf : inW f) (hg : inW g) (hh : inW h) : evFun T (D+2) 170 [.agg [.int .u64 a, .int .u64 b, .int .u64 c, .int .u64 d], .agg [.int .u64 e, .int .u64 f, .int .u64 g, .int .u64 h]] [] =
    some (.c (.int .i64 (cmpI (((a * 18446744073709551616 + b) * 18446744073709551616 + c) * 18446744073709551616 + d) (((e * 18446744073709551616 + f) * 18446744073709551616 + g) * 18446744073709551616 + h))), [], []) := by
  rw [← or_cmp _ _ d h hd hh, ← or_cmp _ _ c g hc hg, ← or_cmp _ _ b f hb hf, ← or_assoc', ← or_assoc']
  have w1 := R_words D a b c d
  have w2 := R_words D e f g h
  have cm : ∀ x y : Int, (cmpI x y = -1 ∧ decide (x < y) = true) ∨ (cmpI x y = 1 ∧ decide (x < y) = false ∧ decide (y < x) = true) ∨ (cmpI x y = 0 ∧ decide (x < y) = false ∧ decide (y < x) = false) := by
    intro x y
    unfold cmpI
    by_cases q1 : x < y
    · simp [q1]
    · by_cases q2 : y < x
      · simp [q1, q2]
      · simp [q1, q2]
  clear hb hc hd hf hg hh
  rcases cm a e with ⟨p, p1⟩ | ⟨p, p1, p2⟩ | ⟨p, p1, p2⟩ <;> rw [p] <;> clear p
  · rw [ev_fn T170]; (try simp only [Nat.add_assoc, Nat.reduceAdd] at w1 w2); obtain ⟨call, hcall⟩ : ∃ call, call = evFun T (D + 1) := ⟨_, rfl⟩; rw [← hcall] at w1 w2 ⊢; clear hcall; simp (maxSteps := 2000000) [ir170, w1, w2, ir170_l0, ir170_t0, ir170_x0, loopC_step, p1, orN]
  · rw [ev_fn T170]; (try simp only [Nat.add_assoc, Nat.reduceAdd] at w1 w2); obtain ⟨call, hcall⟩ : ∃ call, call = evFun T (D + 1) := ⟨_, rfl⟩; rw [← hcall] at w1 w2 ⊢; clear hcall; simp (maxSteps := 2000000) [ir170, w1, w2, ir170_l0, ir170_t0, ir170_x0, loopC_step, p1, p2, orN]
  · rcases cm b f with ⟨q, q1⟩ | ⟨q, q1, q2⟩ | ⟨q, q1, q2⟩ <;> rw [q] <;> clear q
    · rw [ev_fn T170]; (try simp only [Nat.add_assoc, Nat.reduceAdd] at w1 w2); obtain ⟨call, hcall⟩ : ∃ call, call = evFun T (D + 1) := ⟨_, rfl⟩; rw [← hcall] at w1 w2 ⊢; clear hcall; simp (maxSteps := 2000000) [ir170, w1, w2, ir170_l0, ir170_t0, ir170_x0, loopC_step, p1, p2, q1, orN]
    · rw [ev_fn T170]; (try simp only [Nat.add_assoc, Nat.reduceAdd] at w1 w2); obtain ⟨call, hcall⟩ : ∃ call, call = evFun T (D + 1) := ⟨_, rfl⟩; rw [← hcall] at w1 w2 ⊢; clear hcall; simp (maxSteps := 2000000) [ir170, w1, w2, ir170_l0, ir170_t0, ir170_x0, loopC_step, p1, p2, q1, q2, orN]
    · rcases cm c g with ⟨r, r1⟩ | ⟨r, r1, r2⟩ | ⟨r, r1, r2⟩ <;> rw [r] <;> clear r
      · rw [ev_fn T170]; (try simp only [Nat.add_assoc, Nat.reduceAdd] at w1 w2); obtain ⟨call, hcall⟩ : ∃ call, call = evFun T (D + 1) := ⟨_, rfl⟩; rw [← hcall] at w1 w2 ⊢; clear hcall; simp (maxSteps := 2000000) [ir170, w1, w2, ir170_l0, ir170_t0, ir170_x0, loopC_step, p1, p2, q1, q2, r1, orN]
      · rw [ev_fn T170]; (try simp only [Nat.add_assoc, Nat.reduceAdd] at w1 w2); obtain ⟨call, hcall⟩ : ∃ call, call = evFun T (D + 1) := ⟨_, rfl⟩; rw [← hcall] at w1 w2 ⊢; clear hcall; simp (maxSteps := 2000000) [ir170, w1, w2, ir170_l0, ir170_t0, ir170_x0, loopC_step, p1, p2, q1, q2, r1, r2, orN]
      · rcases cm d h with ⟨s, s1⟩ | ⟨s, s1, s2⟩ | ⟨s, s1, s2⟩ <;> rw [s] <;> clear s
        · rw [ev_fn T170]; (try simp only [Nat.add_assoc, Nat.reduceAdd] at w1 w2); obtain ⟨call, hcall⟩ : ∃ call, call = evFun T (D + 1) := ⟨_, rfl⟩; rw [← hcall] at w1 w2 ⊢; clear hcall; simp (maxSteps := 2000000) [ir170, w1, w2, ir170_l0, ir170_t0, ir170_x0, loopC_step, p1, p2, q1, q2, r1, r2, s1, orN]
        · rw [ev_fn T170]; (try simp only [Nat.add_assoc, Nat.reduceAdd] at w1 w2); obtain ⟨call, hcall⟩ : ∃ call, call = evFun T (D + 1) := ⟨_, rfl⟩; rw [← hcall] at w1 w2 ⊢; clear hcall; simp (maxSteps := 2000000) [ir170, w1, w2, ir170_l0, ir170_t0, ir170_x0, loopC_step, p1, p2, q1, q2, r1, r2, s1, s2, orN]
        · rw [ev_fn T170]; (try simp only [Nat.add_assoc, Nat.reduceAdd] at w1 w2); obtain ⟨call, hcall⟩ : ∃ call, call = evFun T (D + 1) := ⟨_, rfl⟩; rw [← hcall] at w1 w2 ⊢; clear hcall; simp (maxSteps := 2000000) [ir170, w1, w2, ir170_l0, ir170_t0, ir170_x0, loopC_step, p1, p2, q1, q2, r1, r2, s1, s2, orN]
end Go.Ab

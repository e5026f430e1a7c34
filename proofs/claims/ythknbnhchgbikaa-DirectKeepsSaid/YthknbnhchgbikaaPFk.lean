/- Words for this claim: an evaluator of the program's functions, and what they come to. -/
import Derived.Test.YthknbnhchgbikaaPFj
set_option linter.all false
namespace Go.Ab
attribute [local simp] runFn args0 e_skip e_reg regC_some e_seq seqC_n seqC_e seqC_r e_cond condC_t condC_f e_block e_loop e_exit e_ret nextC_n nextC_e nextC_r nextK_n nextK_e nextK_r evReg evOps evOp wants fp St.ev St.get St.set St.sets St.put St.apply St.pre preK inB lk up del hits V.cells V.cellsG allPlain Cell.plain pure1 keysOf okUn noK Ev.apart meets mkV splice fillC binC unC mmC eqCs eqC resVs resV one export1 V.keys V.keys1 outKeys valsKeys cellsKeys Cell.keys Blk.keys elsKeys fpCall fpCallG noTup reach getAll outW newW names srcs capsOf onesOf slB rowsOf V.ren V.ren1 Cell.ren Loc.ren locsRen Blk.ren inR outR place nm St.sweep swept St.kill killR lmap delAll St.trim reachL expR ownGet b2i_le wrap_u64 wrap_i64 bits_u64 bits_i64 or_u64 and_u64 Int.fdiv_eq_ediv_of_nonneg word mmC hits
theorem E_world0 (D : Nat) (ow : Bool) (ns : List Int) (most : Nat) (how : Int) (h : 0 ≤ how ∧ how ≤ 255) (h0 : 0 < most) (hb0 : (bodiesS ns most).length = 0) :
    evFun T (D+4) 30 [.c (.slc (.o 0) 1 0 ns.length), .c (.int .i64 most), .c (.int .u8 how)] [bytesB ow ns] =
      some (.agg ((worldS how).cells .nils .nils .nils .nils .nils), [some (bytesB ow ns)], []) := by
  have hb := E_bodies0 D ow ns most h0 hb0
  rw [← wc_cells how h]
  have i1 := E_rint (D+2) (n := 1 + how % 3) (by omega)
  have t1 : how.tmod 3 = how % 3 := Int.tmod_eq_emod_of_nonneg h.1
  have t2 : how.tmod 4 = how % 4 := Int.tmod_eq_emod_of_nonneg h.1
  have t3 : how.tdiv 4 = how / 4 := Int.tdiv_eq_ediv_of_nonneg h.1
  have t4 : how.tdiv 8 = how / 8 := Int.tdiv_eq_ediv_of_nonneg h.1
  have t5 : (how / 4).tmod 2 = how / 4 % 2 := Int.tmod_eq_emod_of_nonneg (by omega)
  have t6 : (how / 8).tmod 2 = how / 8 % 2 := Int.tmod_eq_emod_of_nonneg (by omega)
  have c0 := conv_u16 (a := how) (by omega)
  have c1 := conv_u16 (a := 1 + how % 3) (by omega)
  have c2 := conv_u16 (a := how / 4) (by omega)
  have c3 := conv_u16 (a := how / 8) (by omega)
  have c4 : how * 72057594037927936 % 18446744073709551616 = how * 72057594037927936 := by omega
  have c5 : how % 18446744073709551616 = how := by omega
  have c6 : how % 4 % 18446744073709551616 = how % 4 := by omega
  have c7 : how % 4 * 4611686018427387904 % 18446744073709551616 = how % 4 * 4611686018427387904 := by omega
  simp only [bytesB] at hb
  clear hb0 h0
  cases ow
  · unfold bytesB wc
    rw [ev_fn T30]; (try simp only [Nat.add_assoc, Nat.reduceAdd] at i1 hb); obtain ⟨call, hcall⟩ : ∃ call, call = evFun T (D + 3) := ⟨_, rfl⟩; rw [← hcall] at i1 hb ⊢; clear hcall; simp (maxSteps := 2000000) [ir30, i1, hb, t1, t2, t3, t4, t5, t6, c0, c1, c2, c3, c4, c5, c6, c7, ir30_l0, ir30_t0, ir30_x0, loopC_step]
  · unfold bytesB wc
    rw [ev_fn T30]; (try simp only [Nat.add_assoc, Nat.reduceAdd] at i1 hb); obtain ⟨call, hcall⟩ : ∃ call, call = evFun T (D + 3) := ⟨_, rfl⟩; rw [← hcall] at i1 hb ⊢; clear hcall; simp (maxSteps := 2000000) [ir30, i1, hb, t1, t2, t3, t4, t5, t6, c0, c1, c2, c3, c4, c5, c6, c7, ir30_l0, ir30_t0, ir30_x0, loopC_step]
theorem E_worldN (D : Nat) (m : Int) : evFun T (D+4) 30 [.c .nils, .c (.int .i64 m), .c (.int .u8 0)] [] = some (.agg ((worldS 0).cells .nils .nils .nils .nils .nils), [], []) := by
  have hb := E_bodiesN D m
  rw [← wc_cells 0 (by omega)]
  have i1 := E_rint (D+2) (n := 1) (by omega)
  unfold wc
  rw [ev_fn T30]; (try simp only [Nat.add_assoc, Nat.reduceAdd] at i1 hb); obtain ⟨call, hcall⟩ : ∃ call, call = evFun T (D + 3) := ⟨_, rfl⟩; rw [← hcall] at i1 hb ⊢; clear hcall; simp (maxSteps := 2000000) [ir30, i1, hb, ir30_l0, ir30_t0, ir30_x0, loopC_step]
theorem mo_ne {x y z w : Int} (h : (x, y) ≠ ((z, w) : Mo)) : (x / 18446744073709551616 == z / 18446744073709551616 && (x % 18446744073709551616 == z % 18446744073709551616 && (y / 18446744073709551616 == w / 18446744073709551616 && y % 18446744073709551616 == w % 18446744073709551616))) = false := by
  rw [Bool.eq_false_iff]
  intro q
  simp only [Bool.and_eq_true, beq_iff_eq] at q
  apply h
  rw [Prod.mk.injEq]
  omega
def awB : List Bd := bodiesS [128, 128, 1, 2, 130, 128, 1, 2] 2
def awP : List Mo := (kickS (worldS 0).g (worldS 0).eps 18446744073709551616 awB).2
theorem ev_awake11 (D : Nat) : evFun T (D+12) 24 [] [] = some (.c (.bool true), [], []) := by
  have i1 := E_rint (D+10) (n := 1) (by omega)
  have n1 := fun n => E_num (D+10) n
  have hns : ∀ n ∈ ([128, 128, 1, 2, 130, 128, 1, 2] : List Int), byteI n := by
    intro n hn
    simp at hn
    unfold byteI; omega
  have hl : (bodiesS [128, 128, 1, 2, 130, 128, 1, 2] 2).length = 2 := rfl
  have hw := E_world (D+7) true [128, 128, 1, 2, 130, 128, 1, 2] 2 0 (by omega) (by omega) (by omega) hns (by rw [hl]; omega)
  have hk := E_kickA_ok D (worldS 0) awB (List.replicate 2 [.int .i64 (-1)]) 2 18446744073709551616 (by decide) (by decide) (bodiesS_ok hns 2) (worldS_g 0).1 (worldS_g 0).2 (by unfold mayI; omega) (by decide +kernel)
  have e0 : (kickS (worldS 0).g (worldS 0).eps 18446744073709551616 awB).2 = awP := rfl
  have hbl : awB.length = 2 := rfl
  obtain ⟨_, _, hk⟩ := hk
  rw [e0, hbl] at hk
  unfold wldB at hw
  rw [show bodiesS [128, 128, 1, 2, 130, 128, 1, 2] 2 = awB from rfl, hbl] at hw
  obtain ⟨p0, hp0⟩ : ∃ p0, awP[0]? = some p0 := ⟨awP.getD 0 (0, 0), by decide +kernel⟩
  obtain ⟨bb, hbb⟩ : ∃ bb, awB[0]? = some bb := ⟨bodyAt [128, 128, 1, 2, 130, 128, 1, 2] 0, rfl⟩
  have hne : (p0.1, p0.2) ≠ ((bb.p, bb.q) : Mo) := by
    have h1 : p0 = awP.getD 0 (0, 0) := by rw [List.getD, hp0]; rfl
    have h2 : bb = awB.getD 0 b0 := by rw [List.getD, hbb]; rfl
    rw [h1, h2]
    decide +kernel
  have hne' := mo_ne hne
  clear hne hns hl hbl e0
  generalize awP = ps at *
  generalize awB = bs at *
  generalize worldS 0 = ww at *
  simp only [wA, oA, bytesB, Wn.cells] at hw hk
  simp at hw hk
  rw [ev_fn T24]; (try simp only [Nat.add_assoc, Nat.reduceAdd] at i1 n1 hw hk); obtain ⟨call, hcall⟩ : ∃ call, call = evFun T (D + 11) := ⟨_, rfl⟩; rw [← hcall] at i1 n1 hw hk ⊢; clear hcall; simp (maxSteps := 2000000) [ir24, i1, n1, hw, hk, hp0, hbb, hne', Mo.row, Bd.row, Wn.cells, -getElem?_pos, List.getElem?_cons_zero, List.getElem?_cons_succ]
end Go.Ab

namespace Go.Ab
attribute [local simp] runFn args0 e_skip e_reg regC_some e_seq seqC_n seqC_e seqC_r e_cond condC_t condC_f e_block e_loop e_exit e_ret nextC_n nextC_e nextC_r nextK_n nextK_e nextK_r evReg evOps evOp wants fp St.ev St.get St.set St.sets St.put St.apply St.pre preK inB lk up del hits V.cells V.cellsG allPlain Cell.plain pure1 keysOf okUn noK Ev.apart meets mkV splice fillC binC unC mmC eqCs eqC resVs resV one export1 V.keys V.keys1 outKeys valsKeys cellsKeys Cell.keys Blk.keys elsKeys fpCall fpCallG noTup reach getAll outW newW names srcs capsOf onesOf slB rowsOf V.ren V.ren1 Cell.ren Loc.ren locsRen Blk.ren inR outR place nm St.sweep swept St.kill killR lmap delAll St.trim reachL expR ownGet b2i_le wrap_u64 wrap_i64 bits_u64 bits_i64 or_u64 and_u64 Int.fdiv_eq_ediv_of_nonneg word mmC hits
theorem kick_one (g eps h : Int) (b : Bd) : kickS g eps h [b] = (0, [(b.p, b.q)]) := rfl
theorem u64_fix {h : Int} (k : 0 ≤ h ∧ h ≤ 18446744073709551615) : h / 18446744073709551616 = 0 ∧ h % 18446744073709551616 = h := by omega
theorem alone_ev (D : Nat) (a b c d h : Int) (ha : byteI a) (hb : byteI b) (hc : byteI c) (hd : byteI d) (kh : 0 ≤ h ∧ h ≤ 18446744073709551615) :
    evFun T (D+13) 9 [.c (.int .u8 a), .c (.int .u8 b), .c (.int .u8 c), .c (.int .u8 d), .c (.int .u64 h)] [] = some (.c (.bool true), [], []) := by
  have n1 := fun n => E_num (D+11) n
  have aw := ev_awake11 D
  have hns : ∀ n ∈ ([a, b, c, d] : List Int), byteI n := by
    intro n hn
    simp at hn
    rcases hn with rfl | rfl | rfl | rfl <;> assumption
  have hbs : bodiesS [a, b, c, d] 1 = [bodyS a b c d] := by simp [bodiesS, bodyAt, List.range_succ]
  have hw := E_world (D+8) true [a, b, c, d] 1 0 (by omega) (by omega) (by omega) hns (by rw [hbs]; simp)
  have hk := E_kickA_ok (D+1) (worldS 0) [bodyS a b c d] [[.int .i64 (-1)]] 1 h (by simp) (by simp) (fun x hx => by simp at hx; subst hx; exact bodyS_ok a b c d ha hb hc hd) (worldS_g 0).1 (worldS_g 0).2 (by unfold mayI; omega) rfl
  obtain ⟨_, _, hk⟩ := hk
  rw [kick_one] at hk
  unfold wldB at hw
  rw [hbs] at hw
  have hwn := E_worldN (D+8) 0
  have hk0 := E_kick0 (D+1) (worldS 0) h
  rw [(u64_fix kh).1, (u64_fix kh).2] at hk hk0
  generalize worldS 0 = ww at *
  generalize bodyS a b c d = bb at *
  simp only [wA, oA, bytesB, Wn.cells, Bd.row, Mo.row] at hw hk hwn hk0
  simp at hw hk hwn hk0
  simp only [Bd.row, Mo.row] at hw hk
  rw [ev_fn T9]; (try simp only [Nat.add_assoc, Nat.reduceAdd] at n1 aw hw hk hwn hk0); obtain ⟨call, hcall⟩ : ∃ call, call = evFun T (D + 12) := ⟨_, rfl⟩; rw [← hcall] at n1 aw hw hk hwn hk0 ⊢; clear hcall; simp (maxSteps := 2000000) [ir9, n1, aw, hw, hk, hwn, hk0, Mo.row, Bd.row, Wn.cells]
end Go.Ab

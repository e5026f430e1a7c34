/- Words for this claim: an evaluator of the program's functions, and what they come to. -/
import Derived.Test.YthknbnhchgbikaaPFq
import Derived.Test.YthknbnhchgbikaaAb6
set_option linter.all false
namespace Go.Ab
attribute [local simp] runFn args0 e_skip e_reg regC_some e_seq seqC_n seqC_e seqC_r e_cond condC_t condC_f e_block e_loop e_exit e_ret nextC_n nextC_e nextC_r nextK_n nextK_e nextK_r evReg evOps evOp wants fp St.ev St.get St.set St.sets St.put St.apply St.pre preK inB lk up del hits V.cells V.cellsG allPlain Cell.plain pure1 keysOf okUn noK Ev.apart meets mkV splice fillC binC unC mmC eqCs eqC resVs resV one export1 V.keys V.keys1 outKeys valsKeys cellsKeys Cell.keys Blk.keys elsKeys fpCall fpCallG noTup reach getAll outW newW names srcs capsOf onesOf slB rowsOf V.ren V.ren1 Cell.ren Loc.ren locsRen Blk.ren inR outR place nm St.sweep swept St.kill killR lmap delAll St.trim reachL expR ownGet b2i_le wrap_u64 wrap_i64 bits_u64 bits_i64 or_u64 and_u64 Int.fdiv_eq_ediv_of_nonneg word mmC hits
theorem bodsL_r0 (D : Nat) (ow : Bool) (ns : List Int) (L : Nat) (hL : L ≤ ns.length) (m a b c d : Int) (h0 : ns[0]? = some a) (h1 : ns[1]? = some b) (h2 : ns[2]? = some c) (h3 : ns[3]? = some d) (hm : 0 < m) (hl : 3 < L) (ka : byteI a) (kb : byteI b) (kc : byteI c) (kd : byteI d) :
    ∀ K, nextK K ir46_t0 ir46_x0 (evCode (evFun T (D+2)) ir46_l0 (bS m [some (bytesB ow ns)] (.c (.slc (.o 0) 1 0 L)) (.c .nils) 0 [] [])) =
      K (bS m [some (bytesB ow ns)] (.c (.slc (.o 0) 1 0 L)) (.c (.slc (.l 42) 20 0 1)) 4 (b41 (bodyS a b c d).row [(bodyS a b c d).row]) [42, 41]) := by
  intro K
  have hb := E_body D a b c d ka kb kc kd
  have l1 : (3 : Int) < (L : Int) := by omega
  have l2 : (0 : Int) < (L : Int) := by omega
  have l3 : (1 : Int) < (L : Int) := by omega
  have l4 : (2 : Int) < (L : Int) := by omega
  have hrow : (bodyS a b c d).row.length = 20 := rfl
  have hpl : allPlain (bodyS a b c d).row = true := rfl
  have hren : ∀ ρ, (bodyS a b c d).row.map (Cell.ren ρ) = (bodyS a b c d).row := fun ρ => rfl
  have l2n : 0 < L := by omega
  have l3n : 1 < L := by omega
  have l4n : 2 < L := by omega
  have u1n : 0 < ns.length := by omega
  have u2n : 1 < ns.length := by omega
  have u3n : 2 < ns.length := by omega
  have u4n : 3 < ns.length := by omega
  obtain ⟨call, hcall⟩ : ∃ call, call = evFun T (D + 2) := ⟨_, rfl⟩
  rw [← hcall] at hb ⊢
  clear hcall
  generalize (bodyS a b c d).row = row at *
  simp (maxSteps := 2000000) [bS, b41, bytesB, ir46_l0, ir46_t0, ir46_x0, h0, h1, h2, h3, hb, hm, l1, l2, l3, l4, hl, l2n, l3n, l4n, u1n, u2n, u3n, u4n, maxRow, hrow, hpl, hren, -getElem?_pos, List.getElem?_cons_zero, List.getElem?_cons_succ]
theorem bodsL_rk (D : Nat) (ow : Bool) (ns : List Int) (L : Nat) (hL : L ≤ ns.length) (m a b c d : Int) (t t1 t2 t3 k : Nat) (g : List Cell) (R : List (List Cell)) (h0 : ns[t]? = some a) (h1 : ns[t1]? = some b) (h2 : ns[t2]? = some c) (h3 : ns[t3]? = some d) (e1 : t1 = t + 1) (e2 : t2 = t + 2) (e3 : t3 = t + 3) (hk : R.length = k) (hkm : (k : Int) < m) (hk' : k ≤ 1000) (ht : t ≤ 4000) (hl : t3 < L) (ka : byteI a) (kb : byteI b) (kc : byteI c) (kd : byteI d) :
    ∀ K, nextK K ir46_t0 ir46_x0 (evCode (evFun T (D+2)) ir46_l0 (bS m [some (bytesB ow ns)] (.c (.slc (.o 0) 1 0 L)) (.c (.slc (.l 42) 20 0 k)) t (b41 g R) [42, 41])) =
      K (bS m [some (bytesB ow ns)] (.c (.slc (.o 0) 1 0 L)) (.c (.slc (.l 42) 20 0 (k + 1))) ((t + 4 : Nat) : Int) (b41 (bodyS a b c d).row (R ++ [(bodyS a b c d).row])) [42, 41]) := by
  intro K
  have hb := E_body D a b c d ka kb kc kd
  have l2n : t < L := by omega
  have l3n : t1 < L := by omega
  have l4n : t2 < L := by omega
  have u1n : t < ns.length := by omega
  have u2n : t1 < ns.length := by omega
  have u3n : t2 < ns.length := by omega
  have u4n : t3 < ns.length := by omega
  have w1 : ((t : Int) + 1 + 9223372036854775808) % 18446744073709551616 - 9223372036854775808 = (t1 : Int) := by omega
  have w2 : ((t : Int) + 2 + 9223372036854775808) % 18446744073709551616 - 9223372036854775808 = (t2 : Int) := by omega
  have w3 : ((t : Int) + 3 + 9223372036854775808) % 18446744073709551616 - 9223372036854775808 = (t3 : Int) := by omega
  have w4 : ((t : Int) + 4 + 9223372036854775808) % 18446744073709551616 - 9223372036854775808 = (t : Int) + 4 := by omega
  have r2 : R.take k = R := List.take_of_length_le (by omega)
  have r3 : k ≤ R.length := by omega
  have r4 : k + 1 ≤ 1073741824 := by omega
  have r5 : k < 1073741824 := by omega
  have hrow : (bodyS a b c d).row.length = 20 := rfl
  have hpl : allPlain (bodyS a b c d).row = true := rfl
  have hren : ∀ ρ, (bodyS a b c d).row.map (Cell.ren ρ) = (bodyS a b c d).row := fun ρ => rfl
  clear e1 e2 e3
  obtain ⟨call, hcall⟩ : ∃ call, call = evFun T (D + 2) := ⟨_, rfl⟩
  rw [← hcall] at hb ⊢
  clear hcall
  generalize (bodyS a b c d).row = row at *
  simp (maxSteps := 2000000) [bS, b41, bytesB, ir46_l0, ir46_t0, ir46_x0, h0, h1, h2, h3, hb, hkm, hl, l2n, l3n, l4n, u1n, u2n, u3n, u4n, w1, w2, w3, w4, r2, r3, r4, r5, maxRow, hrow, hpl, hren, -getElem?_pos, List.getElem?_cons_zero, List.getElem?_cons_succ]
theorem E_bodies2 (D : Nat) (ow : Bool) (ns : List Int) (hns : ∀ n ∈ ns, byteI n) (hl : 8 ≤ ns.length) :
    evFun T (D+3) 46 [.c (.slc (.o 0) 1 0 8), .c (.int .i64 2)] [bytesB ow ns] = some (.c (.slc (.l 0) 20 0 2), [some (bytesB ow ns)], [⟨65, 20, true, true, [(bodyAt ns 0).row, (bodyAt ns 1).row]⟩]) := by
  obtain ⟨f, hf⟩ : ∃ f, (18446744073709551616 : Nat) = f + 1 + 1 + 1 := ⟨18446744073709551613, rfl⟩
  have key : BRet [some (bytesB ow ns)] (.c (.slc (.l 42) 20 0 2)) (b41 (bodyAt ns 1).row [(bodyAt ns 0).row, (bodyAt ns 1).row]) (loopC (evFun T (D+2)) ir46_l0 ir46_t0 ir46_x0 18446744073709551616 (bS 2 [some (bytesB ow ns)] (.c (.slc (.o 0) 1 0 8)) (.c .nils) 0 [] [])) := by
    rw [hf, loopC_K, bodsL_r0 D ow ns 8 hl 2 _ _ _ _ (nsAt (by omega)) (nsAt (by omega)) (nsAt (by omega)) (nsAt (by omega)) (by omega) (by omega) (getD_byte hns _) (getD_byte hns _) (getD_byte hns _) (getD_byte hns _)]
    rw [loopC_K]
    have r1 := bodsL_rk D ow ns 8 hl 2 _ _ _ _ 4 5 6 7 1 (bodyAt ns 0).row [(bodyAt ns 0).row] (nsAt (by omega)) (nsAt (by omega)) (nsAt (by omega)) (nsAt (by omega)) rfl rfl rfl rfl (by omega) (by omega) (by omega) (by omega) (getD_byte hns _) (getD_byte hns _) (getD_byte hns _) (getD_byte hns _)
    have r1' := r1 (loopC (evFun T (D+2)) ir46_l0 ir46_t0 ir46_x0 (f + 1))
    refine Eq.mpr (congrArg _ r1') ?_
    rw [loopC_K]
    exact bods_x1 _ _ _ 8 8 11 _ _ _ rfl (by omega) (by omega) _
  obtain ⟨σ, h1, h2, h3, h4⟩ := key
  simp only [bS, bytesB] at h1
  obtain ⟨call, hcall⟩ : ∃ call, call = evFun T (D + 2) := ⟨_, rfl⟩
  rw [ev_fn T46]
  rw [← hcall] at h1 ⊢
  clear hcall hns
  generalize (bodyAt ns 0).row = r0 at *
  generalize (bodyAt ns 1).row = r1 at *
  cases ow <;> simp (maxSteps := 2000000) [ir46, h1, h2, h3, h4, lk_up1, b41, bytesB]
theorem E_world2 (D : Nat) (ns : List Int) (how : Int) (h : 0 ≤ how ∧ how ≤ 255) (hns : ∀ n ∈ ns, byteI n) (hl8 : 8 ≤ ns.length) :
    evFun T (D+4) 30 [.c (.slc (.o 0) 1 0 8), .c (.int .i64 2), .c (.int .u8 how)] [bytesB false ns] =
      some (.agg ((worldS how).cells (.slc (.l 0) 20 0 2) .nils .nils (.slc (.l 1) 1 0 2) .nils), [some (bytesB false ns)], oA [bodyAt ns 0, bodyAt ns 1] (List.replicate 2 [.int .i64 (-1)])) := by
  have hb := E_bodies2 D false ns hns hl8
  rw [← wc_cells how h]
  have i1 := E_rint (D+2) (n := 1 + how % 3) (by omega)
  have t1 : how.tmod 3 = how % 3 := Int.tmod_eq_emod_of_nonneg h.1
  have t2 : how.tmod 4 = how % 4 := Int.tmod_eq_emod_of_nonneg h.1
  have t3 : how.tdiv 4 = how / 4 := Int.tdiv_eq_ediv_of_nonneg h.1
  have t4 : how.tdiv 8 = how / 8 := Int.tdiv_eq_ediv_of_nonneg h.1
  have t5 : (how / 4).tmod 2 = how / 4 % 2 := Int.tmod_eq_emod_of_nonneg (by omega)
  have t6 : (how / 8).tmod 2 = how / 8 % 2 := Int.tmod_eq_emod_of_nonneg (by omega)
  have c0 := conv_u16 (a := how) (by omega)
  have c1 := conv_u16 (a := 1 + how % 3) (by omega)
  have c2 := conv_u16 (a := how / 4) (by omega)
  have c3 := conv_u16 (a := how / 8) (by omega)
  have c4 : how * 72057594037927936 % 18446744073709551616 = how * 72057594037927936 := by omega
  have c5 : how % 18446744073709551616 = how := by omega
  have c6 : how % 4 % 18446744073709551616 = how % 4 := by omega
  have c7 : how % 4 * 4611686018427387904 % 18446744073709551616 = how % 4 * 4611686018427387904 := by omega
  have hl := wld_loop (evFun T (D+3)) how 2 2 8 [(bodyAt ns 0).row, (bodyAt ns 1).row] false ns (by omega) (by omega)
  unfold oA
  simp only [List.map_cons, List.map_nil]
  generalize (bodyAt ns 0).row = r0 at *
  generalize (bodyAt ns 1).row = r1 at *
  simp only [wS, wc, b48, St.put, up, bytesB] at hl
  simp only [bytesB] at hb
  simp at hl hb
  clear hl8 hns
  unfold bytesB wc
  rw [ev_fn T30]; (try simp only [Nat.add_assoc, Nat.reduceAdd] at i1 hb hl); obtain ⟨call, hcall⟩ : ∃ call, call = evFun T (D + 3) := ⟨_, rfl⟩; rw [← hcall] at i1 hb hl ⊢; clear hcall; simp (maxSteps := 2000000) [ir30, i1, hb, hl, t1, t2, t3, t4, t5, t6, c0, c1, c2, c3, c4, c5, c6, c7]
end Go.Ab

namespace Go.Ab
attribute [local simp] runFn args0 e_skip e_reg regC_some e_seq seqC_n seqC_e seqC_r e_cond condC_t condC_f e_block e_loop e_exit e_ret nextC_n nextC_e nextC_r nextK_n nextK_e nextK_r evReg evOps evOp wants fp St.ev St.get St.set St.sets St.put St.apply St.pre preK inB lk up del hits V.cells V.cellsG allPlain Cell.plain pure1 keysOf okUn noK Ev.apart meets mkV splice fillC binC unC mmC eqCs eqC resVs resV one export1 V.keys V.keys1 outKeys valsKeys cellsKeys Cell.keys Blk.keys elsKeys fpCall fpCallG noTup reach getAll outW newW names srcs capsOf onesOf slB rowsOf V.ren V.ren1 Cell.ren Loc.ren locsRen Blk.ren inR outR place nm St.sweep swept St.kill killR lmap delAll St.trim reachL expR ownGet b2i_le wrap_u64 wrap_i64 bits_u64 bits_i64 or_u64 and_u64 Int.fdiv_eq_ediv_of_nonneg word mmC hits
theorem bodyAt_small {ns : List Int} (h : ∀ n ∈ ns, byteI n) (k : Nat) : (bodyAt ns k).small ∧ Mo.small ((bodyAt ns k).p, (bodyAt ns k).q) 73786976294838206464 := by
  have := body_small (getD_byte h (4 * k)) (getD_byte h (4 * k + 1)) (getD_byte h (4 * k + 2)) (getD_byte h (4 * k + 3))
  exact ⟨⟨this.1, this.2.1, this.2.2.1⟩, this.2.2.2⟩
theorem bodyAt_ok {ns : List Int} (h : ∀ n ∈ ns, byteI n) (k : Nat) : (bodyAt ns k).ok := bodyS_ok _ _ _ _ (getD_byte h _) (getD_byte h _) (getD_byte h _) (getD_byte h _)
theorem may_abs {x m : Int} (h : absI x ≤ m) (hm : m < 170141183460469231731687303715884105728) : mayI x := of_absI_lt (by omega)
set_option maxRecDepth 20000 in
theorem two_ev (D : Nat) (ns : List Int) (how h : Int) (hns : ∀ n ∈ ns, byteI n) (kw : 0 ≤ how ∧ how ≤ 255) (kh : 0 ≤ h ∧ h ≤ 18446744073709551615) :
    evFun T (D+13) 10 [.c (.slc (.o 0) 1 0 ns.length), .c (.int .u8 how), .c (.int .u64 h)] [bytesB false ns] = some (.c (.bool true), [some (bytesB false ns)], []) := by
  have aw := ev_awake11 D
  by_cases h8 : ns.length < 8
  · have h8' : (ns.length : Int) < 8 := by omega
    clear hns
    unfold bytesB
    rw [ev_fn T10]; (try simp only [Nat.add_assoc, Nat.reduceAdd] at aw); obtain ⟨call, hcall⟩ : ∃ call, call = evFun T (D + 12) := ⟨_, rfl⟩; rw [← hcall] at aw ⊢; clear hcall; simp (maxSteps := 2000000) [ir10, aw, h8, h8']
  · have hl8 : 8 ≤ ns.length := by omega
    have h8' : ¬ (ns.length : Int) < 8 := by omega
    have h8'' : (8 : Int) ≤ (ns.length : Int) := by omega
    have n1 := fun n => E_num (D+11) n
    have hw := E_world2 (D+8) ns how kw hns hl8
    have kk : mayI h := by unfold mayI; omega
    have kkm := okM_may kk
    have mg := (worldS_g how).1
    have me := (worldS_g how).2
    obtain ⟨sg, se⟩ := worldS_small how
    have sh : absI h ≤ 18446744073709551616 := absI_le (by omega)
    obtain ⟨sa, sp⟩ := bodyAt_small hns 0
    obtain ⟨sb, sq⟩ := bodyAt_small hns 1
    have oa := bodyAt_ok hns 0
    have ob := bodyAt_ok hns 1
    obtain ⟨q1, q2, q3, q4, q5, q6⟩ := pulledS_small sg se sh sa sb sp sq (by omega)
    obtain ⟨d1, d2, d3⟩ := small_dist sa sb
    have kt := kick_two q1
    rw [q5, q6] at kt
    have hk := E_kickA_ok (D+1) (worldS how) [bodyAt ns 0, bodyAt ns 1] (List.replicate 2 [.int .i64 (-1)]) 2 h (by simp) (by simp) (fun x hx => by simp at hx; rcases hx with rfl | rfl <;> assumption) mg me kk (by rw [kt])
    obtain ⟨_, _, hk⟩ := hk
    rw [kt] at hk
    have hd := R_vsub (D+5) (okM_may ob.2.1) (okM_may ob.2.2.1) (okM_may oa.2.1) (okM_may oa.2.2.1)
    have kdx : mayI ((bodyAt ns 1).x - (bodyAt ns 0).x) := by rw [← d2]; exact may_both _ _
    have kdy : mayI ((bodyAt ns 1).y - (bodyAt ns 0).y) := by rw [← d3]; exact may_both _ _
    have hp := R_pull (D+4) (okM_may mg) (okM_may oa.1) (okM_may ob.1) (okM_may kdx) (okM_may kdy) (okM_may me) kkm
    have kX := may_abs q3 (by omega)
    have kY := may_abs q4 (by omega)
    have ha := R_vadd (D+6) (okM_may oa.2.2.2.1) (okM_may oa.2.2.2.2) (okM_may kX) (okM_may kY)
    have hs := R_vsub (D+5) (okM_may ob.2.2.2.1) (okM_may ob.2.2.2.2) (okM_may kX) (okM_may kY)
    simp only [fv_dm] at hd hp ha hs
    unfold pullV at hp
    rw [q2] at hp
    rw [d1, d2, d3] at hd
    have fp := absI_add sp.1 q3
    have fp2 := absI_add sp.2 q4
    have fq := absI_sub sq.1 q3
    have fq2 := absI_sub sq.2 q4
    simp only at fp fp2 fq fq2
    rw [both1_fit (fit_abs fp (by omega)) (fit_abs fp2 (by omega)), both1_fit (fit_abs fp2 (by omega)) (fit_abs fp (by omega)), bothE_zero.2 ⟨fit_abs fp (by omega), fit_abs fp2 (by omega)⟩] at ha
    rw [both1_fit (fit_abs fq (by omega)) (fit_abs fq2 (by omega)), both1_fit (fit_abs fq2 (by omega)) (fit_abs fq (by omega)), bothE_zero.2 ⟨fit_abs fq (by omega), fit_abs fq2 (by omega)⟩] at hs
    clear q1 q2 q3 q4 q5 q6 d1 d2 d3 kt sa sb sp sq oa ob kdx kdy kX kY fp fp2 fq fq2 sg se mg me kkm kk sh
    generalize pullX (worldS how).g (bodyAt ns 0).m (bodyAt ns 1).m ((bodyAt ns 1).x - (bodyAt ns 0).x) ((bodyAt ns 1).y - (bodyAt ns 0).y) (worldS how).eps h = X at *
    generalize pullY (worldS how).g (bodyAt ns 0).m (bodyAt ns 1).m ((bodyAt ns 1).x - (bodyAt ns 0).x) ((bodyAt ns 1).y - (bodyAt ns 0).y) (worldS how).eps h = Y at *
    generalize bodyAt ns 0 = b0 at *
    generalize bodyAt ns 1 = b1 at *
    generalize worldS how = ww at *
    have u1 := (u64_fix kh).1
    have u2 := (u64_fix kh).2
    rw [u1, u2] at hk hp
    unfold wA oA at *
    simp only [bytesB, Wn.cells, Bd.row, Mo.row, List.length_cons, List.length_nil, List.map_cons, List.map_nil] at hw hk hp ha hs hd
    simp at hw hk hd hp ha hs
    unfold bytesB
    clear hns u1 u2
    rw [ev_fn T10]; (try simp only [Nat.add_assoc, Nat.reduceAdd] at n1 aw hw hk hd hp ha hs); obtain ⟨call, hcall⟩ : ∃ call, call = evFun T (D + 12) := ⟨_, rfl⟩; rw [← hcall] at n1 aw hw hk hd hp ha hs ⊢; clear hcall; simp (maxSteps := 2000000) [ir10, n1, aw, hw, hk, hd, hp, ha, hs, h8', h8'', hl8, Wn.cells, Bd.row, Mo.row, -getElem?_pos, List.getElem?_cons_zero, List.getElem?_cons_succ]
end Go.Ab

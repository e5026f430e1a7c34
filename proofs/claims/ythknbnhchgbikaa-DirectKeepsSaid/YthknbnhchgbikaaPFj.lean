/- Words for this claim: an evaluator of the program's functions, and what they come to. -/
import Derived.Test.YthknbnhchgbikaaPFi
import Derived.Test.YthknbnhchgbikaaAb4
set_option linter.all false
namespace Go.Ab
attribute [local simp] runFn args0 e_skip e_reg regC_some e_seq seqC_n seqC_e seqC_r e_cond condC_t condC_f e_block e_loop e_exit e_ret nextC_n nextC_e nextC_r nextK_n nextK_e nextK_r evReg evOps evOp wants fp St.ev St.get St.set St.sets St.put St.apply St.pre preK inB lk up del hits V.cells V.cellsG allPlain Cell.plain pure1 keysOf okUn noK Ev.apart meets mkV splice fillC binC unC mmC eqCs eqC resVs resV one export1 V.keys V.keys1 outKeys valsKeys cellsKeys Cell.keys Blk.keys elsKeys fpCall fpCallG noTup reach getAll outW newW names srcs capsOf onesOf slB rowsOf V.ren V.ren1 Cell.ren Loc.ren locsRen Blk.ren inR outR place nm St.sweep swept St.kill killR lmap delAll St.trim reachL expR ownGet b2i_le wrap_u64 wrap_i64 bits_u64 bits_i64 or_u64 and_u64 Int.fdiv_eq_ediv_of_nonneg word mmC hits
theorem E_body (D : Nat) (a b c d : Int) (ha : byteI a) (hb : byteI b) (hc : byteI c) (hd : byteI d) : evFun T (D+2) 92 [.c (.int .u8 a), .c (.int .u8 b), .c (.int .u8 c), .c (.int .u8 d)] [] = some (.agg (bodyS a b c d).row, [], []) := by
  rw [bodyS_row a b c d ha hb hc hd]
  unfold byteI at *
  have i1 := E_rint D (n := 1 + c % 9) (by omega)
  have i2 := E_rint D (n := b % 4) (by omega)
  have t1 : c.tmod 9 = c % 9 := Int.tmod_eq_emod_of_nonneg hc.1
  have t2 : d.tmod 3 = d % 3 := Int.tmod_eq_emod_of_nonneg hd.1
  have t3 : d.tmod 7 = d % 7 := Int.tmod_eq_emod_of_nonneg hd.1
  have t4 : c.tmod 5 = c % 5 := Int.tmod_eq_emod_of_nonneg hc.1
  have t5 : b.tmod 4 = b % 4 := Int.tmod_eq_emod_of_nonneg hb.1
  have ca := conv_u16 (a := a) (by omega)
  have cb := conv_u16 (a := b) (by omega)
  have cc := conv_u16 (a := c) (by omega)
  have cd := conv_u16 (a := d) (by omega)
  have c1 := conv_u16 (a := 1 + c % 9) (by omega)
  have c2 := conv_u16 (a := d % 3) (by omega)
  have c3 := conv_u16 (a := d % 7) (by omega)
  have c4 := conv_u16 (a := c % 5) (by omega)
  rw [ev_fn T92]; (try simp only [Nat.add_assoc, Nat.reduceAdd] at i1 i2); obtain ⟨call, hcall⟩ : ∃ call, call = evFun T (D + 1) := ⟨_, rfl⟩; rw [← hcall] at i1 i2 ⊢; clear hcall; simp (maxSteps := 2000000) [ir92, i1, i2, t1, t2, t3, t4, t5, ca, cb, cc, cd, c1, c2, c3, c4]
  refine ⟨by omega, by omega, by omega, by omega, by omega, by omega, by omega, by omega, by omega, by omega⟩
end Go.Ab

namespace Go.Ab
attribute [local simp] runFn args0 e_skip e_reg regC_some e_seq seqC_n seqC_e seqC_r e_cond condC_t condC_f e_block e_loop e_exit e_ret nextC_n nextC_e nextC_r nextK_n nextK_e nextK_r evReg evOps evOp wants fp St.ev St.get St.set St.sets St.put St.apply St.pre preK inB lk up del hits V.cells V.cellsG allPlain Cell.plain pure1 keysOf okUn noK Ev.apart meets mkV splice fillC binC unC mmC eqCs eqC resVs resV one export1 V.keys V.keys1 outKeys valsKeys cellsKeys Cell.keys Blk.keys elsKeys fpCall fpCallG noTup reach getAll outW newW names srcs capsOf onesOf slB rowsOf V.ren V.ren1 Cell.ren Loc.ren locsRen Blk.ren inR outR place nm St.sweep swept St.kill killR lmap delAll St.trim reachL expR ownGet b2i_le wrap_u64 wrap_i64 bits_u64 bits_i64 or_u64 and_u64 Int.fdiv_eq_ediv_of_nonneg word mmC hits
theorem lk_up1 {α : Type} (t s : Nat) (x : α) : ∀ l : List (Nat × α), lk s (up t x l) = if t = s then some x else lk s l
  | [] => by simp [up, lk]
  | (k, y) :: r => by
    have ih := lk_up1 t s x r
    by_cases h : k = t
    · subst h
      by_cases h2 : k = s
      · simp [up, lk, h2]
      · simp [up, lk, h2]
    · by_cases h2 : k = s
      · subst h2
        have h3 : ¬ t = k := fun e => h e.symm
        simp [up, lk, h, h3]
      · simp [up, lk, h, h2, ih]
def bS (m : Int) (ob : List (Option Blk)) (nsV l : V) (i : Int) (loc : List (Nat × Blk)) (cr : List Nat) : St := { env := [(0, nsV), (1, .c (.int .i64 m)), (4, .c .nils), (5, l), (6, .c (.int .i64 i))], loc := loc, out := ob, cr := cr }
def b41 (g : List Cell) (R : List (List Cell)) : List (Nat × Blk) := [(41, ⟨65, 20, true, true, [g]⟩), (42, ⟨65, 20, true, true, R⟩)]
def bytesB (ow : Bool) (ns : List Int) : Blk := ⟨5, 1, ow, true, ns.map fun n => [.int .u8 n]⟩
theorem bods_r0 (D : Nat) (ow : Bool) (ns : List Int) (m a b c d : Int) (h0 : ns[0]? = some a) (h1 : ns[1]? = some b) (h2 : ns[2]? = some c) (h3 : ns[3]? = some d) (hm : 0 < m) (hl : 3 < ns.length) (ka : byteI a) (kb : byteI b) (kc : byteI c) (kd : byteI d) :
    ∀ K, nextK K ir46_t0 ir46_x0 (evCode (evFun T (D+2)) ir46_l0 (bS m [some (bytesB ow ns)] (.c (.slc (.o 0) 1 0 ns.length)) (.c .nils) 0 [] [])) =
      K (bS m [some (bytesB ow ns)] (.c (.slc (.o 0) 1 0 ns.length)) (.c (.slc (.l 42) 20 0 1)) 4 (b41 (bodyS a b c d).row [(bodyS a b c d).row]) [42, 41]) := by
  intro K
  have hb := E_body D a b c d ka kb kc kd
  have l1 : (3 : Int) < (ns.length : Int) := by omega
  have l2 : (0 : Int) < (ns.length : Int) := by omega
  have l3 : (1 : Int) < (ns.length : Int) := by omega
  have l4 : (2 : Int) < (ns.length : Int) := by omega
  have hrow : (bodyS a b c d).row.length = 20 := rfl
  have hpl : allPlain (bodyS a b c d).row = true := rfl
  have hren : ∀ ρ, (bodyS a b c d).row.map (Cell.ren ρ) = (bodyS a b c d).row := fun ρ => rfl
  have l2n : 0 < ns.length := by omega
  have l3n : 1 < ns.length := by omega
  have l4n : 2 < ns.length := by omega
  obtain ⟨call, hcall⟩ : ∃ call, call = evFun T (D + 2) := ⟨_, rfl⟩
  rw [← hcall] at hb ⊢
  clear hcall
  generalize (bodyS a b c d).row = row at *
  simp (maxSteps := 2000000) [bS, b41, bytesB, ir46_l0, ir46_t0, ir46_x0, h0, h1, h2, h3, hb, hm, l1, l2, l3, l4, hl, l2n, l3n, l4n, maxRow, hrow, hpl, hren, -getElem?_pos, List.getElem?_cons_zero, List.getElem?_cons_succ]
theorem bods_rk (D : Nat) (ow : Bool) (ns : List Int) (m a b c d : Int) (t t1 t2 t3 k : Nat) (g : List Cell) (R : List (List Cell)) (h0 : ns[t]? = some a) (h1 : ns[t1]? = some b) (h2 : ns[t2]? = some c) (h3 : ns[t3]? = some d) (e1 : t1 = t + 1) (e2 : t2 = t + 2) (e3 : t3 = t + 3) (hk : R.length = k) (hkm : (k : Int) < m) (hk' : k ≤ 1000) (ht : t ≤ 4000) (hl : t3 < ns.length) (ka : byteI a) (kb : byteI b) (kc : byteI c) (kd : byteI d) :
    ∀ K, nextK K ir46_t0 ir46_x0 (evCode (evFun T (D+2)) ir46_l0 (bS m [some (bytesB ow ns)] (.c (.slc (.o 0) 1 0 ns.length)) (.c (.slc (.l 42) 20 0 k)) t (b41 g R) [42, 41])) =
      K (bS m [some (bytesB ow ns)] (.c (.slc (.o 0) 1 0 ns.length)) (.c (.slc (.l 42) 20 0 (k + 1))) ((t + 4 : Nat) : Int) (b41 (bodyS a b c d).row (R ++ [(bodyS a b c d).row])) [42, 41]) := by
  intro K
  have hb := E_body D a b c d ka kb kc kd
  have l2n : t < ns.length := by omega
  have l3n : t1 < ns.length := by omega
  have l4n : t2 < ns.length := by omega
  have w1 : ((t : Int) + 1 + 9223372036854775808) % 18446744073709551616 - 9223372036854775808 = (t1 : Int) := by omega
  have w2 : ((t : Int) + 2 + 9223372036854775808) % 18446744073709551616 - 9223372036854775808 = (t2 : Int) := by omega
  have w3 : ((t : Int) + 3 + 9223372036854775808) % 18446744073709551616 - 9223372036854775808 = (t3 : Int) := by omega
  have w4 : ((t : Int) + 4 + 9223372036854775808) % 18446744073709551616 - 9223372036854775808 = (t : Int) + 4 := by omega
  have r2 : R.take k = R := List.take_of_length_le (by omega)
  have r3 : k ≤ R.length := by omega
  have r4 : k + 1 ≤ 1073741824 := by omega
  have r5 : k < 1073741824 := by omega
  have hrow : (bodyS a b c d).row.length = 20 := rfl
  have hpl : allPlain (bodyS a b c d).row = true := rfl
  have hren : ∀ ρ, (bodyS a b c d).row.map (Cell.ren ρ) = (bodyS a b c d).row := fun ρ => rfl
  clear e1 e2 e3
  obtain ⟨call, hcall⟩ : ∃ call, call = evFun T (D + 2) := ⟨_, rfl⟩
  rw [← hcall] at hb ⊢
  clear hcall
  generalize (bodyS a b c d).row = row at *
  simp (maxSteps := 2000000) [bS, b41, bytesB, ir46_l0, ir46_t0, ir46_x0, h0, h1, h2, h3, hb, hkm, hl, l2n, l3n, l4n, w1, w2, w3, w4, r2, r3, r4, r5, maxRow, hrow, hpl, hren, -getElem?_pos, List.getElem?_cons_zero, List.getElem?_cons_succ]
def BRet (ob : List (Option Blk)) (v : V) (loc : List (Nat × Blk)) (r : Option (Ex × St)) : Prop := ∃ σ, r = some (.exit 0, σ) ∧ lk 5 σ.env = some v ∧ σ.loc = loc ∧ σ.out = ob
/-- The end: no four numbers are left, or there are enough. -/
theorem bods_x1 (call : CallF) (ob : List (Option Blk)) (m : Int) (n t t3 : Nat) (l : V) (loc : List (Nat × Blk)) (cr : List Nat) (e3 : t3 = t + 3) (hl : ¬ t3 < n) (ht : t ≤ 4000) :
    ∀ K, BRet ob l loc (nextK K ir46_t0 ir46_x0 (evCode call ir46_l0 (bS m ob (.c (.slc (.o 0) 1 0 n)) l t loc cr))) := by
  intro K
  have w3 : ((t : Int) + 3 + 9223372036854775808) % 18446744073709551616 - 9223372036854775808 = (t3 : Int) := by omega
  clear e3
  unfold BRet
  simp (maxSteps := 2000000) [bS, ir46_l0, ir46_t0, ir46_x0, w3, hl]
theorem bods_x2 (call : CallF) (ob : List (Option Blk)) (m : Int) (n t t3 k : Nat) (z : Key) (loc : List (Nat × Blk)) (cr : List Nat) (e3 : t3 = t + 3) (hl : t3 < n) (ht : t ≤ 4000) (hk : ¬ (k : Int) < m) :
    ∀ K, BRet ob (.c (.slc z 20 0 k)) loc (nextK K ir46_t0 ir46_x0 (evCode call ir46_l0 (bS m ob (.c (.slc (.o 0) 1 0 n)) (.c (.slc z 20 0 k)) t loc cr))) := by
  intro K
  have w3 : ((t : Int) + 3 + 9223372036854775808) % 18446744073709551616 - 9223372036854775808 = (t3 : Int) := by omega
  clear e3
  unfold BRet
  simp (maxSteps := 2000000) [bS, ir46_l0, ir46_t0, ir46_x0, w3, hl, hk]
theorem nsAt {ns : List Int} {t : Nat} (h : t < ns.length) : ns[t]? = some (ns.getD t 0) := by simp [List.getD, h]
theorem bods_take (ns : List Int) (k : Nat) : ((List.range (k + 1)).map (bodyAt ns)).map Bd.row = ((List.range k).map (bodyAt ns)).map Bd.row ++ [(bodyAt ns k).row] := by
  rw [List.range_succ, List.map_append, List.map_append]; rfl
theorem bods_loop (D : Nat) (ow : Bool) (ns : List Int) (most : Nat) (h0 : 0 < most) (hm : most ≤ 1000) (hns : ∀ n ∈ ns, byteI n) (hb : 0 < (bodiesS ns most).length) :
    ∃ g, BRet [some (bytesB ow ns)] (.c (.slc (.l 42) 20 0 (bodiesS ns most).length)) (b41 g ((bodiesS ns most).map Bd.row)) (loopC (evFun T (D+2)) ir46_l0 ir46_t0 ir46_x0 18446744073709551616 (bS most [some (bytesB ow ns)] (.c (.slc (.o 0) 1 0 ns.length)) (.c .nils) 0 [] [])) := by
  rw [bodiesS_len] at hb ⊢
  obtain ⟨N, hN⟩ : ∃ N, N = min (ns.length / 4) most := ⟨_, rfl⟩
  rw [← hN] at hb ⊢
  have hrows : bodiesS ns most = (List.range N).map (bodyAt ns) := by unfold bodiesS; rw [← hN]
  rw [hrows]
  have main : ∀ (n k : Nat) (g : List Cell) (fuel : Nat), k + n = N → 0 < k → n < fuel →
      ∃ g', BRet [some (bytesB ow ns)] (.c (.slc (.l 42) 20 0 N)) (b41 g' (((List.range N).map (bodyAt ns)).map Bd.row)) (loopC (evFun T (D+2)) ir46_l0 ir46_t0 ir46_x0 fuel (bS most [some (bytesB ow ns)] (.c (.slc (.o 0) 1 0 ns.length)) (.c (.slc (.l 42) 20 0 k)) ((4 * k : Nat) : Int) (b41 g (((List.range k).map (bodyAt ns)).map Bd.row)) [42, 41])) := by
    intro n
    induction n with
    | zero =>
      intro k g fuel hk h1 hf
      obtain ⟨f, rfl⟩ : ∃ f, fuel = f + 1 := ⟨fuel - 1, by omega⟩
      have : k = N := by omega
      subst this
      refine ⟨g, ?_⟩
      rw [loopC_K]
      by_cases h3 : 4 * k + 3 < ns.length
      · exact bods_x2 _ _ _ _ _ (4 * k + 3) k _ _ _ rfl h3 (by omega) (by omega) _
      · exact bods_x1 _ _ _ _ _ (4 * k + 3) _ _ _ rfl h3 (by omega) _
    | succ n ih =>
      intro k g fuel hk h1 hf
      obtain ⟨f, rfl⟩ : ∃ f, fuel = f + 1 := ⟨fuel - 1, by omega⟩
      rw [loopC_K, bods_rk D ow ns most _ _ _ _ (4 * k) (4 * k + 1) (4 * k + 2) (4 * k + 3) k g _ (nsAt (by omega)) (nsAt (by omega)) (nsAt (by omega)) (nsAt (by omega)) rfl rfl rfl (by simp) (by omega) (by omega) (by omega) (by omega) (getD_byte hns _) (getD_byte hns _) (getD_byte hns _) (getD_byte hns _)]
      have := ih (k + 1) (bodyAt ns k).row f (by omega) (by omega) (by omega)
      rw [bods_take] at this
      exact this
  obtain ⟨f, hf⟩ : ∃ f, (18446744073709551616 : Nat) = f + 1 := ⟨18446744073709551615, rfl⟩
  rw [hf, loopC_K, bods_r0 D ow ns most _ _ _ _ (nsAt (by omega)) (nsAt (by omega)) (nsAt (by omega)) (nsAt (by omega)) (by omega) (by omega) (getD_byte hns _) (getD_byte hns _) (getD_byte hns _) (getD_byte hns _)]
  have := main (N - 1) 1 (bodyAt ns 0).row f (by omega) (by omega) (by omega)
  exact this
theorem bods_none (D : Nat) (ow : Bool) (ns : List Int) (most : Nat) (hb : (bodiesS ns most).length = 0) (h0 : 0 < most) :
    BRet [some (bytesB ow ns)] (.c .nils) [] (loopC (evFun T (D+2)) ir46_l0 ir46_t0 ir46_x0 18446744073709551616 (bS most [some (bytesB ow ns)] (.c (.slc (.o 0) 1 0 ns.length)) (.c .nils) 0 [] [])) := by
  rw [bodiesS_len] at hb
  obtain ⟨f, hf⟩ : ∃ f, (18446744073709551616 : Nat) = f + 1 := ⟨18446744073709551615, rfl⟩
  rw [hf, loopC_K]
  exact bods_x1 _ _ _ _ 0 3 _ _ _ rfl (by omega) (by omega) _
theorem E_bodies (D : Nat) (ow : Bool) (ns : List Int) (most : Nat) (h0 : 0 < most) (hm : most ≤ 1000) (hns : ∀ n ∈ ns, byteI n) (hb : 0 < (bodiesS ns most).length) :
    evFun T (D+3) 46 [.c (.slc (.o 0) 1 0 ns.length), .c (.int .i64 most)] [bytesB ow ns] = some (.c (.slc (.l 0) 20 0 (bodiesS ns most).length), [some (bytesB ow ns)], [⟨65, 20, true, true, (bodiesS ns most).map Bd.row⟩]) := by
  obtain ⟨g, σ, h1, h2, h3, h4⟩ := bods_loop D ow ns most h0 hm hns hb
  simp only [bS, bytesB] at h1
  generalize (bodiesS ns most).length = N at *
  obtain ⟨call, hcall⟩ : ∃ call, call = evFun T (D + 2) := ⟨_, rfl⟩
  rw [ev_fn T46]
  rw [← hcall] at h1 ⊢
  clear hcall hns
  cases ow <;> simp (maxSteps := 2000000) [ir46, h1, h2, h3, h4, lk_up1, b41, bytesB]
theorem E_bodies0 (D : Nat) (ow : Bool) (ns : List Int) (most : Nat) (h0 : 0 < most) (hb : (bodiesS ns most).length = 0) :
    evFun T (D+3) 46 [.c (.slc (.o 0) 1 0 ns.length), .c (.int .i64 most)] [bytesB ow ns] = some (.c .nils, [some (bytesB ow ns)], []) := by
  obtain ⟨σ, h1, h2, h3, h4⟩ := bods_none D ow ns most hb h0
  simp only [bS, bytesB] at h1
  obtain ⟨call, hcall⟩ : ∃ call, call = evFun T (D + 2) := ⟨_, rfl⟩
  rw [ev_fn T46]
  rw [← hcall] at h1 ⊢
  clear hcall
  cases ow <;> simp (maxSteps := 2000000) [ir46, h1, h2, h3, h4, lk_up1, bytesB]
theorem E_bodiesN (D : Nat) (m : Int) : evFun T (D+3) 46 [.c .nils, .c (.int .i64 m)] [] = some (.c .nils, [], []) := by
  rw [ev_fn T46]
  simp (maxSteps := 2000000) [ir46, ir46_l0, ir46_t0, ir46_x0, loopC_step]
end Go.Ab

namespace Go.Ab
attribute [local simp] runFn args0 e_skip e_reg regC_some e_seq seqC_n seqC_e seqC_r e_cond condC_t condC_f e_block e_loop e_exit e_ret nextC_n nextC_e nextC_r nextK_n nextK_e nextK_r evReg evOps evOp wants fp St.ev St.get St.set St.sets St.put St.apply St.pre preK inB lk up del hits V.cells V.cellsG allPlain Cell.plain pure1 keysOf okUn noK Ev.apart meets mkV splice fillC binC unC mmC eqCs eqC resVs resV one export1 V.keys V.keys1 outKeys valsKeys cellsKeys Cell.keys Blk.keys elsKeys fpCall fpCallG noTup reach getAll outW newW names srcs capsOf onesOf slB rowsOf V.ren V.ren1 Cell.ren Loc.ren locsRen Blk.ren inR outR place nm St.sweep swept St.kill killR lmap delAll St.trim reachL expR ownGet b2i_le wrap_u64 wrap_i64 bits_u64 bits_i64 or_u64 and_u64 Int.fdiv_eq_ediv_of_nonneg word mmC hits
def wc (how : Int) (cb ca : Cell) : List Cell := [.int .i64 0, .int .i64 0, .int .u64 1152921504606846976, .int .i64 (1 + how % 3), .int .u64 0, .int .i64 0, .int .u64 4611686018427387904, .int .i64 0, .int .u64 (how * 72057594037927936), .int .i64 0, .int .u64 (how % 4 * 4611686018427387904), .int .i64 (how / 4 % 2), .int .i64 (how / 8 % 2), cb, .nils, .nils, ca, .int .i64 0, .int .u64 0, .int .i64 0, .int .u64 0, .int .i64 0, .int .u64 0, .nils]
def wS (how : Int) (v0 : V) (most : Nat) (v36 : V) (cb ca : Cell) (i : Int) (R : List (List Cell)) (l48 : List (Nat × Blk)) (ob : List (Option Blk)) (cr : List Nat) : St :=
  { env := [(0, v0), (1, .c (.int .i64 most)), (2, .c (.int IntKind.u8 how)), (6, .c (.ptr { k := Key.l 6, i := 0, o := 0 })), (9, .agg [.int .i64 0, .int .u64 1152921504606846976]), (10, .c (.int IntKind.u8 how)), (11, .c (.int IntKind.i64 how)), (12, .c (.int IntKind.i64 (how % 3))), (13, .c (.int IntKind.i64 (1 + how % 3))), (14, .agg [.int .i64 (1 + how % 3), .int .u64 0]), (15, .agg [.int .i64 0, .int .u64 4611686018427387904]), (16, .c (.int IntKind.u8 how)), (17, .c (.int IntKind.u64 how)), (18, .c (.int IntKind.u64 (how * 72057594037927936))), (19, .agg [.int .i64 0, .int .u64 (how * 72057594037927936)]), (20, .c (.int IntKind.u8 how)), (21, .c (.int IntKind.u8 (how % 4))), (22, .c (.int IntKind.u64 (how % 4))), (23, .c (.int IntKind.u64 (how % 4 * 4611686018427387904))), (24, .agg [.int .i64 0, .int .u64 (how % 4 * 4611686018427387904)]), (25, .c (.int IntKind.u8 how)), (26, .c (.int IntKind.i64 how)), (27, .c (.int IntKind.i64 (how / 4))), (28, .c (.int IntKind.i64 (how / 4 % 2))), (29, .c (.int IntKind.u8 how)), (30, .c (.int IntKind.i64 how)), (31, .c (.int IntKind.i64 (how / 8))), (32, .c (.int IntKind.i64 (how / 8 % 2))), (33, .agg (wc how .nils .nils)), (7, .c (.ptr { k := Key.l 7, i := 0, o := 0 })), (34, v0), (35, .c (.int .i64 most)), (36, v36), (37, .c (.ptr { k := Key.l 7, i := 0, o := 13 })), (8, .c (.int .i64 i))],
    loc := [(6, { T := 46, sz := 24, own := true, pl := false, els := [[.int .i64 0, .int .i64 0, .int .u64 0, .int .i64 0, .int .u64 0, .int .i64 0, .int .u64 0, .int .i64 0, .int .u64 0, .int .i64 0, .int .u64 0, .int .i64 0, .int .i64 0, Cell.nils, Cell.nils, Cell.nils, Cell.nils, .int .i64 0, .int .u64 0, .int .i64 0, .int .u64 0, .int .i64 0, .int .u64 0, Cell.nils]] }), (7, { T := 46, sz := 24, own := true, pl := false, els := [wc how cb ca] }), (37000, { T := 65, sz := 20, own := true, pl := true, els := R })] ++ l48,
    out := ob, cr := cr }
def b48 (k : Nat) : List (Nat × Blk) := [(47, ⟨3, 1, true, true, [[.int .i64 (-1)]]⟩), (48, ⟨3, 1, true, true, List.replicate k [.int .i64 (-1)]⟩)]
theorem wld_r0 (call : CallF) (how : Int) (v0 : V) (most N : Nat) (R : List (List Cell)) (ob : List (Option Blk)) (hN : 0 < N) :
    ∀ K, nextK K ir30_t0 ir30_x0 (evCode call ir30_l0 (wS how v0 most (.c (.slc (.l 37000) 20 0 N)) (.slc (.l 37000) 20 0 N) .nils 0 R [] ob [37000, 7, 6])) =
      K (wS how v0 most (.c (.slc (.l 37000) 20 0 N)) (.slc (.l 37000) 20 0 N) (.slc (.l 48) 1 0 1) 1 R (b48 1) ob [48, 47, 37000, 7, 6]) := by
  intro K
  simp (maxSteps := 2000000) [wS, wc, b48, ir30_l0, ir30_t0, ir30_x0, hN, maxRow]
theorem wld_rk (call : CallF) (how : Int) (most N k nl : Nat) (R : List (List Cell)) (ow : Bool) (ns : List Int) (hk : k < N) (h0 : 0 < k) (hN : N ≤ 1000) :
    ∀ K, nextK K ir30_t0 ir30_x0 (evCode call ir30_l0 (wS how (.c (.slc (.o 0) 1 0 nl)) most (.c (.slc (.l 37000) 20 0 N)) (.slc (.l 37000) 20 0 N) (.slc (.l 48) 1 0 k) k R (b48 k) [some (bytesB ow ns)] [48, 47, 37000, 7, 6])) =
      K (wS how (.c (.slc (.o 0) 1 0 nl)) most (.c (.slc (.l 37000) 20 0 N)) (.slc (.l 37000) 20 0 N) (.slc (.l 48) 1 0 (k + 1)) ((k + 1 : Nat) : Int) R (b48 (k + 1)) [some (bytesB ow ns)] [48, 47, 37000, 7, 6]) := by
  intro K
  have w4 : ((k : Int) + 1 + 9223372036854775808) % 18446744073709551616 - 9223372036854775808 = (k : Int) + 1 := by omega
  have r4 : k + 1 ≤ 1073741824 := by omega
  have r5 : k < 1073741824 := by omega
  have r6 : List.replicate k [Cell.int .i64 (-1)] ++ [[Cell.int .i64 (-1)]] = List.replicate (k + 1) [Cell.int .i64 (-1)] := by rw [List.replicate_succ']
  simp (maxSteps := 2000000) [wS, wc, b48, bytesB, ir30_l0, ir30_t0, ir30_x0, hk, w4, r4, r5, r6, maxRow]
theorem wld_rx (call : CallF) (how : Int) (v0 v36 : V) (z : Key) (ca : Cell) (most N : Nat) (R : List (List Cell)) (ob : List (Option Blk)) (l48 : List (Nat × Blk)) (cr : List Nat) :
    ∀ K, nextK K ir30_t0 ir30_x0 (evCode call ir30_l0 (wS how v0 most v36 (.slc z 20 0 N) ca N R l48 ob cr)) =
      some (.exit 0, (((((wS how v0 most v36 (.slc z 20 0 N) ca N R l48 ob cr).put (some 38) (.c (.int .i64 N))).put (some 39) (.c (.ptr ⟨.l 7, 0, 13⟩))).put (some 40) (.c (.slc z 20 0 N))).put (some 41) (.c (.int .i64 N))).put (some 42) (.c (.bool false))) := by
  intro K
  simp (maxSteps := 2000000) [wS, wc, ir30_l0, ir30_t0, ir30_x0]
theorem wc_cells (how : Int) (h : 0 ≤ how ∧ how ≤ 255) (cb ca : Cell) : wc how cb ca = (worldS how).cells cb .nils .nils ca .nils := by
  simp only [wc, Wn.cells, worldS, fv, List.cons.injEq, Cell.int.injEq, true_and, and_true]
  refine ⟨by omega, by omega, by omega, by omega, by omega, by omega, by omega, by omega, by omega, by omega, by omega, by omega⟩
theorem wld_loop (call : CallF) (how : Int) (most N nl : Nat) (R : List (List Cell)) (ow : Bool) (ns : List Int) (h0 : 0 < N) (hN : N ≤ 1000) :
    loopC call ir30_l0 ir30_t0 ir30_x0 18446744073709551616 (wS how (.c (.slc (.o 0) 1 0 nl)) most (.c (.slc (.l 37000) 20 0 N)) (.slc (.l 37000) 20 0 N) .nils 0 R [] [some (bytesB ow ns)] [37000, 7, 6]) =
      some (.exit 0, (((((wS how (.c (.slc (.o 0) 1 0 nl)) most (.c (.slc (.l 37000) 20 0 N)) (.slc (.l 37000) 20 0 N) (.slc (.l 48) 1 0 N) N R (b48 N) [some (bytesB ow ns)] [48, 47, 37000, 7, 6]).put (some 38) (.c (.int .i64 N))).put (some 39) (.c (.ptr ⟨.l 7, 0, 13⟩))).put (some 40) (.c (.slc (.l 37000) 20 0 N))).put (some 41) (.c (.int .i64 N))).put (some 42) (.c (.bool false))) := by
  have key := loop_k (call := call) (b := ir30_l0) (tr := ir30_t0) (bx := ir30_x0)
    (fun k => if k = 0 then wS how (.c (.slc (.o 0) 1 0 nl)) most (.c (.slc (.l 37000) 20 0 N)) (.slc (.l 37000) 20 0 N) .nils 0 R [] [some (bytesB ow ns)] [37000, 7, 6] else wS how (.c (.slc (.o 0) 1 0 nl)) most (.c (.slc (.l 37000) 20 0 N)) (.slc (.l 37000) 20 0 N) (.slc (.l 48) 1 0 k) k R (b48 k) [some (bytesB ow ns)] [48, 47, 37000, 7, 6]) N
    (fun k hk K => by
      by_cases q : k = 0
      · subst q
        rw [if_pos rfl, if_neg (by omega)]
        exact wld_r0 call how _ most N R [some (bytesB ow ns)] h0 K
      · rw [if_neg q, if_neg (by omega)]
        exact wld_rk call how most N k nl R ow ns hk (by omega) hN K)
    (fun K => by
      rw [if_neg (by omega)]
      exact wld_rx call how _ _ _ _ most N R [some (bytesB ow ns)] _ _ K) 18446744073709551616 (by omega)
  rw [if_pos rfl] at key
  exact key
def wldB (ns : List Int) (most : Nat) : List Blk := oA (bodiesS ns most) (List.replicate (bodiesS ns most).length [.int .i64 (-1)])
theorem E_world (D : Nat) (ow : Bool) (ns : List Int) (most : Nat) (how : Int) (h : 0 ≤ how ∧ how ≤ 255) (h0 : 0 < most) (hm : most ≤ 1000) (hns : ∀ n ∈ ns, byteI n) (hb0 : 0 < (bodiesS ns most).length) :
    evFun T (D+4) 30 [.c (.slc (.o 0) 1 0 ns.length), .c (.int .i64 most), .c (.int .u8 how)] [bytesB ow ns] =
      some (.agg ((worldS how).cells (.slc (.l 0) 20 0 (bodiesS ns most).length) .nils .nils (.slc (.l 1) 1 0 (bodiesS ns most).length) .nils), [some (bytesB ow ns)], wldB ns most) := by
  have hb := E_bodies D ow ns most h0 hm hns hb0
  have hlen : (bodiesS ns most).length ≤ 1000 := by rw [bodiesS_len]; omega
  rw [← wc_cells how h]
  unfold wldB
  generalize hL : (bodiesS ns most).length = N at *
  generalize bodiesS ns most = bs at *
  have i1 := E_rint (D+2) (n := 1 + how % 3) (by omega)
  have t1 : how.tmod 3 = how % 3 := Int.tmod_eq_emod_of_nonneg h.1
  have t2 : how.tmod 4 = how % 4 := Int.tmod_eq_emod_of_nonneg h.1
  have t3 : how.tdiv 4 = how / 4 := Int.tdiv_eq_ediv_of_nonneg h.1
  have t4 : how.tdiv 8 = how / 8 := Int.tdiv_eq_ediv_of_nonneg h.1
  have t5 : (how / 4).tmod 2 = how / 4 % 2 := Int.tmod_eq_emod_of_nonneg (by omega)
  have t6 : (how / 8).tmod 2 = how / 8 % 2 := Int.tmod_eq_emod_of_nonneg (by omega)
  have c0 := conv_u16 (a := how) (by omega)
  have c1 := conv_u16 (a := 1 + how % 3) (by omega)
  have c2 := conv_u16 (a := how / 4) (by omega)
  have c3 := conv_u16 (a := how / 8) (by omega)
  have c4 : how * 72057594037927936 % 18446744073709551616 = how * 72057594037927936 := by omega
  have c5 : how % 18446744073709551616 = how := by omega
  have c6 : how % 4 % 18446744073709551616 = how % 4 := by omega
  have c7 : how % 4 * 4611686018427387904 % 18446744073709551616 = how % 4 * 4611686018427387904 := by omega
  have hl := wld_loop (evFun T (D+3)) how most N ns.length (bs.map Bd.row) ow ns hb0 hlen
  simp only [wS, wc, b48, St.put, up, bytesB] at hl
  simp only [bytesB] at hb
  simp at hl
  clear hL hlen hb0 hm h0 hns
  cases ow
  · unfold bytesB oA wc
    rw [ev_fn T30]; (try simp only [Nat.add_assoc, Nat.reduceAdd] at i1 hb hl); obtain ⟨call, hcall⟩ : ∃ call, call = evFun T (D + 3) := ⟨_, rfl⟩; rw [← hcall] at i1 hb hl ⊢; clear hcall; simp (maxSteps := 2000000) [ir30, i1, hb, hl, t1, t2, t3, t4, t5, t6, c0, c1, c2, c3, c4, c5, c6, c7]
  · unfold bytesB oA wc
    rw [ev_fn T30]; (try simp only [Nat.add_assoc, Nat.reduceAdd] at i1 hb hl); obtain ⟨call, hcall⟩ : ∃ call, call = evFun T (D + 3) := ⟨_, rfl⟩; rw [← hcall] at i1 hb hl ⊢; clear hcall; simp (maxSteps := 2000000) [ir30, i1, hb, hl, t1, t2, t3, t4, t5, t6, c0, c1, c2, c3, c4, c5, c6, c7]
end Go.Ab

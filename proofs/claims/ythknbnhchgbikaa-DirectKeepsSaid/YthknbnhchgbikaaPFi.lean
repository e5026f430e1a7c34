/- Words for this claim: an evaluator of the program's functions, and what they come to. -/
import Derived.Test.YthknbnhchgbikaaPFh
import Derived.Test.YthknbnhchgbikaaAb4
set_option linter.all false
namespace Go.Ab
attribute [local simp] runFn args0 e_skip e_reg regC_some e_seq seqC_n seqC_e seqC_r e_cond condC_t condC_f e_block e_loop e_exit e_ret nextC_n nextC_e nextC_r nextK_n nextK_e nextK_r evReg evOps evOp wants fp St.ev St.get St.set St.sets St.put St.apply St.pre preK inB lk up del hits V.cells V.cellsG allPlain Cell.plain pure1 keysOf okUn noK Ev.apart meets mkV splice fillC binC unC mmC eqCs eqC resVs resV one export1 V.keys V.keys1 outKeys valsKeys cellsKeys Cell.keys Blk.keys elsKeys fpCall fpCallG noTup reach getAll outW newW names srcs capsOf onesOf slB rowsOf V.ren V.ren1 Cell.ren Loc.ren locsRen Blk.ren inR outR place nm St.sweep swept St.kill killR lmap delAll St.trim reachL expR ownGet b2i_le wrap_u64 wrap_i64 bits_u64 bits_i64 or_u64 and_u64 Int.fdiv_eq_ediv_of_nonneg word mmC hits
variable {h1 h2 : Int}
def wA (w : Wn) (n m : Nat) : V := .agg (w.cells (.slc (.o 0) 20 0 n) .nils .nils (.slc (.o 1) 1 0 m) .nils)
def oA (bs : List Bd) (ats : List (List Cell)) : List Blk := [⟨65, 20, true, true, bs.map Bd.row⟩, ⟨3, 1, true, true, ats⟩]
theorem E_pulledA (D : Nat) (w : Wn) (bs : List Bd) (ats : List (List Cell)) (m i j : Nat) (a b : Bd) (p q : Mo) (h : Int) (hi : bs[i]? = some a) (hj : bs[j]? = some b) (ka : a.ok) (kb : b.ok) (kp : p.ok) (kq : q.ok) (kg : mayI w.g) (ke : mayI w.eps) (kh : mayI h) :
    evFun T (D+10) 67 [wA w bs.length m, .c (.int .i64 i), .c (.int .i64 j), .agg (Mo.row p), .agg (Mo.row q), .agg [.int .i64 (h / 18446744073709551616), .int .u64 (h % 18446744073709551616)]] (oA bs ats) =
      some (.tup [.agg (Mo.row (pulledS w.g w.eps h a b p q).p), .agg (Mo.row (pulledS w.g w.eps h a b p q).q), .c (.int .i64 (pulledS w.g w.eps h a b p q).e)], (oA bs ats).map some, []) := by
  have hil := (List.getElem?_eq_some_iff.1 hi).1
  have hjl := (List.getElem?_eq_some_iff.1 hj).1
  have hil' : (i : Int) < (bs.length : Int) := by omega
  have hjl' : (j : Int) < (bs.length : Int) := by omega
  have s := E_vsub (D+2) (okM_may kb.2.1) (okM_may kb.2.2.1) (okM_may ka.2.1) (okM_may ka.2.2.1)
  have kd1 := may_both (b.x - a.x) (b.y - a.y)
  have kd2 := may_both (b.y - a.y) (b.x - a.x)
  have pl := E_pull D (okM_may kg) (okM_may ka.1) (okM_may kb.1) (okM_may kd1) (okM_may kd2) (okM_may ke) (okM_may kh)
  simp only [fv_dm] at s pl
  unfold pulledS
  generalize hdE : bothE (b.x - a.x) (b.y - a.y) = dE at *
  generalize hkE : pullE w.g a.m b.m (both1 (b.x - a.x) (b.y - a.y)) (both1 (b.y - a.y) (b.x - a.x)) w.eps h = kE at *
  have kkx := okM_pullX w.g a.m b.m (both1 (b.x - a.x) (b.y - a.y)) (both1 (b.y - a.y) (b.x - a.x)) w.eps h
  have kky := okM_pullY w.g a.m b.m (both1 (b.x - a.x) (b.y - a.y)) (both1 (b.y - a.y) (b.x - a.x)) w.eps h
  generalize hkx : pullX w.g a.m b.m (both1 (b.x - a.x) (b.y - a.y)) (both1 (b.y - a.y) (b.x - a.x)) w.eps h = kx at *
  generalize hky : pullY w.g a.m b.m (both1 (b.x - a.x) (b.y - a.y)) (both1 (b.y - a.y) (b.x - a.x)) w.eps h = ky at *
  have ap := E_vadd (D+2) (okM_may kp.1) (okM_may kp.2) kkx kky
  have sq := E_vsub (D+2) (okM_may kq.1) (okM_may kq.2) kkx kky
  simp only [fv_dm] at ap sq
  clear hdE hkE hkx hky
  by_cases c1 : dE = 0
  · subst c1
    by_cases c2 : kE = 0
    · subst c2
      by_cases c3 : bothE (p.1 + kx) (p.2 + ky) = 0
      · rw [c3] at ap
        simp only [c3, ne_eq, not_true_eq_false, if_false]
        unfold wA oA
        rw [ev_fn T67]; (try simp only [Nat.add_assoc, Nat.reduceAdd] at s pl ap sq); obtain ⟨call, hcall⟩ : ∃ call, call = evFun T (D + 9) := ⟨_, rfl⟩; rw [← hcall] at s pl ap sq ⊢; clear hcall; simp (maxSteps := 2000000) [ir67, Wn.cells, Bd.row, Mo.row, hi, hj, hil', hjl', s, pl, ap, sq]
      · have e3 : (bothE (p.1 + kx) (p.2 + ky) != 0) = true := by simpa using c3
        simp only [c3, ne_eq, not_true_eq_false, not_false_eq_true, if_false, if_true]
        unfold wA oA
        rw [ev_fn T67]; (try simp only [Nat.add_assoc, Nat.reduceAdd] at s pl ap sq); obtain ⟨call, hcall⟩ : ∃ call, call = evFun T (D + 9) := ⟨_, rfl⟩; rw [← hcall] at s pl ap sq ⊢; clear hcall; simp (maxSteps := 2000000) [ir67, Wn.cells, Bd.row, Mo.row, hi, hj, hil', hjl', s, pl, ap, e3]
    · have e2 : (kE != 0) = true := by simpa using c2
      simp only [c2, ne_eq, not_true_eq_false, not_false_eq_true, if_false, if_true]
      unfold wA oA
      rw [ev_fn T67]; (try simp only [Nat.add_assoc, Nat.reduceAdd] at s pl ap sq); obtain ⟨call, hcall⟩ : ∃ call, call = evFun T (D + 9) := ⟨_, rfl⟩; rw [← hcall] at s pl ap sq ⊢; clear hcall; simp (maxSteps := 2000000) [ir67, Wn.cells, Bd.row, Mo.row, hi, hj, hil', hjl', s, pl, e2]
  · have e1 : (dE != 0) = true := by simpa using c1
    simp only [c1, ne_eq, not_false_eq_true, if_true]
    unfold wA oA
    rw [ev_fn T67]; (try simp only [Nat.add_assoc, Nat.reduceAdd] at s pl ap sq); obtain ⟨call, hcall⟩ : ∃ call, call = evFun T (D + 9) := ⟨_, rfl⟩; rw [← hcall] at s pl ap sq ⊢; clear hcall; simp (maxSteps := 2000000) [ir67, Wn.cells, Bd.row, Mo.row, hi, hj, hil', hjl', s, e1]
end Go.Ab

namespace Go.Ab
attribute [local simp] runFn args0 e_skip e_reg regC_some e_seq seqC_n seqC_e seqC_r e_cond condC_t condC_f e_block e_loop e_exit e_ret nextC_n nextC_e nextC_r nextK_n nextK_e nextK_r evReg evOps evOp wants fp St.ev St.get St.set St.sets St.put St.apply St.pre preK inB lk up del hits V.cells V.cellsG allPlain Cell.plain pure1 keysOf okUn noK Ev.apart meets mkV splice fillC binC unC mmC eqCs eqC resVs resV one export1 V.keys V.keys1 outKeys valsKeys cellsKeys Cell.keys Blk.keys elsKeys fpCall fpCallG noTup reach getAll outW newW names srcs capsOf onesOf slB rowsOf V.ren V.ren1 Cell.ren Loc.ren locsRen Blk.ren inR outR place nm St.sweep swept St.kill killR lmap delAll St.trim reachL expR ownGet b2i_le wrap_u64 wrap_i64 bits_u64 bits_i64 or_u64 and_u64 Int.fdiv_eq_ediv_of_nonneg word mmC hits
def kS0 (w : Wn) (n m : Nat) (h : Int) (ob : List (Option Blk)) (v6 : V) (k : Int) (l24 : List (Nat × Blk)) (cr : List Nat) : St :=
  { env := [(0, .agg [.int .i64 w.tk, .int .i64 (w.h / 18446744073709551616), .int .u64 (w.h % 18446744073709551616), .int .i64 (w.g / 18446744073709551616), .int .u64 (w.g % 18446744073709551616), .int .i64 (w.eps / 18446744073709551616), .int .u64 (w.eps % 18446744073709551616), .int .i64 (w.th / 18446744073709551616), .int .u64 (w.th % 18446744073709551616), .int .i64 (w.bo / 18446744073709551616), .int .u64 (w.bo % 18446744073709551616), .int .i64 w.gr, .int .i64 w.st, Cell.slc (Key.o 0) 20 0 n, Cell.nils, Cell.nils, Cell.slc (Key.o 1) 1 0 m, .int .i64 (w.xm / 18446744073709551616), .int .u64 (w.xm % 18446744073709551616), .int .i64 (w.xp / 18446744073709551616), .int .u64 (w.xp % 18446744073709551616), .int .i64 (w.xq / 18446744073709551616), .int .u64 (w.xq % 18446744073709551616), Cell.nils]), (1, .agg [.int .i64 (h / 18446744073709551616), .int .u64 (h % 18446744073709551616)]), (2, .c (.ptr { k := Key.l 2, i := 0, o := 0 })), (3, .c (.ptr { k := Key.l 3, i := 0, o := 0 })), (4, .c Cell.nils), (5, .c (.int IntKind.i64 0)), (6, v6), (14, .c (.ptr { k := Key.l 2, i := 0, o := 13 })), (15, .c (.slc (Key.o 0) 20 0 n)), (16, .c (.int IntKind.i64 (n : Int))), (17, .c (.int .i64 k))],
    loc := [(2, { T := 46, sz := 24, own := true, pl := false, els := [[.int .i64 w.tk, .int .i64 (w.h / 18446744073709551616), .int .u64 (w.h % 18446744073709551616), .int .i64 (w.g / 18446744073709551616), .int .u64 (w.g % 18446744073709551616), .int .i64 (w.eps / 18446744073709551616), .int .u64 (w.eps % 18446744073709551616), .int .i64 (w.th / 18446744073709551616), .int .u64 (w.th % 18446744073709551616), .int .i64 (w.bo / 18446744073709551616), .int .u64 (w.bo % 18446744073709551616), .int .i64 w.gr, .int .i64 w.st, Cell.slc (Key.o 0) 20 0 n, Cell.nils, Cell.nils, Cell.slc (Key.o 1) 1 0 m, .int .i64 (w.xm / 18446744073709551616), .int .u64 (w.xm % 18446744073709551616), .int .i64 (w.xp / 18446744073709551616), .int .u64 (w.xp % 18446744073709551616), .int .i64 (w.xq / 18446744073709551616), .int .u64 (w.xq % 18446744073709551616), Cell.nils]] }), (3, { T := 25, sz := 2, own := true, pl := true, els := [[.int .i64 (h / 18446744073709551616), .int .u64 (h % 18446744073709551616)]] })] ++ l24,
    out := ob, cr := cr }

def k24 (g : List Cell) (R : List (List Cell)) : List (Nat × Blk) := [(24, ⟨28, 4, true, true, [g]⟩), (25, ⟨28, 4, true, true, R⟩)]
theorem kick_r0 (D : Nat) (w : Wn) (bs : List Bd) (ats : List (List Cell)) (m : Nat) (h : Int) (b : Bd) (hb : bs[0]? = some b) :
    ∀ K, nextK K ir26_t0 ir26_x0 (evCode (evFun T (D+10)) ir26_l0 (kS0 w bs.length m h ((oA bs ats).map some) (.c .nils) 0 [] [3, 2])) =
      K (kS0 w bs.length m h ((oA bs ats).map some) (.c (.slc (.l 25) 4 0 1)) 1 (k24 (Mo.row (b.p, b.q)) [Mo.row (b.p, b.q)]) [25, 24, 8, 3, 2]) := by
  intro K
  have hl := (List.getElem?_eq_some_iff.1 hb).1
  have hl' : (0 : Int) < (bs.length : Int) := by omega
  have hh : bs[0] = b := by simpa [hl] using hb
  simp (maxSteps := 2000000) [kS0, oA, k24, ir26_l0, ir26_t0, ir26_x0, hl, hl', hh, Bd.row, Mo.row, maxRow]
theorem kick_rk (D : Nat) (w : Wn) (bs : List Bd) (ats : List (List Cell)) (m : Nat) (h : Int) (b : Bd) (k : Nat) (g : List Cell) (R : List (List Cell)) (hb : bs[k]? = some b) (hR : R.length = k) (h0 : 0 < k) (hm : k ≤ 1000) :
    ∀ K, nextK K ir26_t0 ir26_x0 (evCode (evFun T (D+10)) ir26_l0 (kS0 w bs.length m h ((oA bs ats).map some) (.c (.slc (.l 25) 4 0 k)) k (k24 g R) [25, 24, 8, 3, 2])) =
      K (kS0 w bs.length m h ((oA bs ats).map some) (.c (.slc (.l 25) 4 0 (k + 1))) ((k + 1 : Nat) : Int) (k24 (Mo.row (b.p, b.q)) (R ++ [Mo.row (b.p, b.q)])) [25, 24, 8, 3, 2]) := by
  intro K
  have hl := (List.getElem?_eq_some_iff.1 hb).1
  have hl' : (k : Int) < (bs.length : Int) := by omega
  have e1 : ((k : Int) + 1 + 9223372036854775808) % 18446744073709551616 - 9223372036854775808 = (k : Int) + 1 := by omega
  have e2 : R.take k = R := List.take_of_length_le (by omega)
  have e3 : k ≤ R.length := by omega
  have e4 : k + 1 ≤ 1073741824 := by omega
  have e5 : k < 1073741824 := by omega
  simp (maxSteps := 2000000) [kS0, oA, k24, ir26_l0, ir26_t0, ir26_x0, hl', hb, Bd.row, Mo.row, maxRow, e1, e2, e3, e4, e5]
theorem kick_rx (D : Nat) (w : Wn) (n m : Nat) (h : Int) (ob : List (Option Blk)) (v6 : V) (l24 : List (Nat × Blk)) (cr : List Nat) :
    ∀ K, nextK K ir26_t0 ir26_x0 (evCode (evFun T (D+10)) ir26_l0 (kS0 w n m h ob v6 n l24 cr)) = some (.exit 0, (kS0 w n m h ob v6 n l24 cr).put (some 18) (.c (.bool false))) := by
  intro K
  simp [kS0, ir26_l0, ir26_t0, ir26_x0]


theorem moms_take (bs : List Bd) (k : Nat) (hk : k < bs.length) : (moms (bs.take (k + 1))).map Mo.row = (moms (bs.take k)).map Mo.row ++ [Mo.row (bs[k].p, bs[k].q)] := by
  rw [List.take_succ_eq_append_getElem hk]
  simp only [moms, List.map_append, List.map_cons, List.map_nil]
theorem kick_take (D : Nat) (w : Wn) (bs : List Bd) (ats : List (List Cell)) (m : Nat) (h : Int) (hn : bs ≠ []) (hm : bs.length ≤ 1000) : ∃ g, loopC (evFun T (D+10)) ir26_l0 ir26_t0 ir26_x0 18446744073709551616 (kS0 w bs.length m h ((oA bs ats).map some) (.c .nils) 0 [] [3, 2]) =
    some (.exit 0, (kS0 w bs.length m h ((oA bs ats).map some) (.c (.slc (.l 25) 4 0 bs.length)) bs.length (k24 g ((moms bs).map Mo.row)) [25, 24, 8, 3, 2]).put (some 18) (.c (.bool false))) := by
  have hpos : 0 < bs.length := List.length_pos_iff.2 hn
  let gs : Nat → List Cell := fun k => match bs[k - 1]? with | some b => Mo.row (b.p, b.q) | none => []
  have key := loop_k (call := evFun T (D+10)) (b := ir26_l0) (tr := ir26_t0) (bx := ir26_x0)
    (fun k => if k = 0 then kS0 w bs.length m h ((oA bs ats).map some) (.c .nils) 0 [] [3, 2] else kS0 w bs.length m h ((oA bs ats).map some) (.c (.slc (.l 25) 4 0 k)) k (k24 (gs k) ((moms (bs.take k)).map Mo.row)) [25, 24, 8, 3, 2]) bs.length
    (fun k hk K => by
      by_cases h0 : k = 0
      · subst h0
        rw [if_pos rfl, if_neg (by omega)]
        have hb : bs[0]? = some bs[0] := by simp [hpos]
        have e1 : gs (0 + 1) = Mo.row (bs[0].p, bs[0].q) := by simp only [gs, Nat.add_sub_cancel, hb]
        rw [e1, moms_take bs 0 hpos]
        exact kick_r0 D w bs ats m h bs[0] hb K
      · rw [if_neg h0, if_neg (by omega)]
        have hb : bs[k]? = some bs[k] := by simp [hk]
        rw [kick_rk D w bs ats m h _ k _ _ hb (by simp only [moms, List.length_map, List.length_take]; omega) (by omega) (by omega) K]
        have e1 : gs (k + 1) = Mo.row (bs[k].p, bs[k].q) := by simp only [gs, Nat.add_sub_cancel, hb]
        rw [e1, moms_take bs k hk])
    (fun K => by
      rw [if_neg (by omega)]
      exact kick_rx D w bs.length m h _ _ _ _ K) 18446744073709551616 (by omega)
  rw [if_pos rfl] at key
  refine ⟨gs bs.length, ?_⟩
  rw [key, List.take_of_length_le (Nat.le_refl _)]
end Go.Ab

namespace Go.Ab
attribute [local simp] runFn args0 e_skip e_reg regC_some e_seq seqC_n seqC_e seqC_r e_cond condC_t condC_f e_block e_loop e_exit e_ret nextC_n nextC_e nextC_r nextK_n nextK_e nextK_r evReg evOps evOp wants fp St.ev St.get St.set St.sets St.put St.apply St.pre preK inB lk up del hits V.cells V.cellsG allPlain Cell.plain pure1 keysOf okUn noK Ev.apart meets mkV splice fillC binC unC mmC eqCs eqC resVs resV one export1 V.keys V.keys1 outKeys valsKeys cellsKeys Cell.keys Blk.keys elsKeys fpCall fpCallG noTup reach getAll outW newW names srcs capsOf onesOf slB rowsOf V.ren V.ren1 Cell.ren Loc.ren locsRen Blk.ren inR outR place nm St.sweep swept St.kill killR lmap delAll St.trim reachL expR ownGet b2i_le wrap_u64 wrap_i64 bits_u64 bits_i64 or_u64 and_u64 Int.fdiv_eq_ediv_of_nonneg word mmC hits
def kS2 (w : Wn) (n m : Nat) (h : Int) (ob : List (Option Blk)) (k : Int) (g : List Cell) (R : List (List Cell)) (cr : List Nat) : St :=
  { env := [(0, .agg [.int .i64 w.tk, .int .i64 (w.h / 18446744073709551616), .int .u64 (w.h % 18446744073709551616), .int .i64 (w.g / 18446744073709551616), .int .u64 (w.g % 18446744073709551616), .int .i64 (w.eps / 18446744073709551616), .int .u64 (w.eps % 18446744073709551616), .int .i64 (w.th / 18446744073709551616), .int .u64 (w.th % 18446744073709551616), .int .i64 (w.bo / 18446744073709551616), .int .u64 (w.bo % 18446744073709551616), .int .i64 w.gr, .int .i64 w.st, Cell.slc (Key.o 0) 20 0 n, Cell.nils, Cell.nils, Cell.slc (Key.o 1) 1 0 m, .int .i64 (w.xm / 18446744073709551616), .int .u64 (w.xm % 18446744073709551616), .int .i64 (w.xp / 18446744073709551616), .int .u64 (w.xp % 18446744073709551616), .int .i64 (w.xq / 18446744073709551616), .int .u64 (w.xq % 18446744073709551616), Cell.nils]), (1, .agg [.int .i64 (h / 18446744073709551616), .int .u64 (h % 18446744073709551616)]), (2, .c (.ptr { k := Key.l 2, i := 0, o := 0 })), (3, .c (.ptr { k := Key.l 3, i := 0, o := 0 })), (4, .c Cell.nils), (5, .c (.int IntKind.i64 0)), (6, .c (.slc (Key.l 25) 4 0 n)), (14, .c (.ptr { k := Key.l 2, i := 0, o := 13 })), (15, .c (.slc (Key.o 0) 20 0 n)), (16, .c (.int IntKind.i64 (n : Int))), (17, .c (.int IntKind.i64 (n : Int))), (18, .c (.bool false)), (27, .c (.slc (Key.l 25) 4 0 n)), (28, .c (.int IntKind.i64 (n : Int))), (29, .c (.int .i64 k))],
    loc := [(2, { T := 46, sz := 24, own := true, pl := false, els := [[.int .i64 w.tk, .int .i64 (w.h / 18446744073709551616), .int .u64 (w.h % 18446744073709551616), .int .i64 (w.g / 18446744073709551616), .int .u64 (w.g % 18446744073709551616), .int .i64 (w.eps / 18446744073709551616), .int .u64 (w.eps % 18446744073709551616), .int .i64 (w.th / 18446744073709551616), .int .u64 (w.th % 18446744073709551616), .int .i64 (w.bo / 18446744073709551616), .int .u64 (w.bo % 18446744073709551616), .int .i64 w.gr, .int .i64 w.st, Cell.slc (Key.o 0) 20 0 n, Cell.nils, Cell.nils, Cell.slc (Key.o 1) 1 0 m, .int .i64 (w.xm / 18446744073709551616), .int .u64 (w.xm % 18446744073709551616), .int .i64 (w.xp / 18446744073709551616), .int .u64 (w.xp % 18446744073709551616), .int .i64 (w.xq / 18446744073709551616), .int .u64 (w.xq % 18446744073709551616), Cell.nils]] }), (3, { T := 25, sz := 2, own := true, pl := true, els := [[.int .i64 (h / 18446744073709551616), .int .u64 (h % 18446744073709551616)]] }), (24, { T := 28, sz := 4, own := true, pl := true, els := [g] }), (25, { T := 28, sz := 4, own := true, pl := true, els := R })],
    out := ob, cr := cr }
def kS1 (w : Wn) (n m : Nat) (h : Int) (ob : List (Option Blk)) (i j : Int) (g : List Cell) (R : List (List Cell)) (cr : List Nat) : St :=
  { env := [(0, .agg [.int .i64 w.tk, .int .i64 (w.h / 18446744073709551616), .int .u64 (w.h % 18446744073709551616), .int .i64 (w.g / 18446744073709551616), .int .u64 (w.g % 18446744073709551616), .int .i64 (w.eps / 18446744073709551616), .int .u64 (w.eps % 18446744073709551616), .int .i64 (w.th / 18446744073709551616), .int .u64 (w.th % 18446744073709551616), .int .i64 (w.bo / 18446744073709551616), .int .u64 (w.bo % 18446744073709551616), .int .i64 w.gr, .int .i64 w.st, Cell.slc (Key.o 0) 20 0 n, Cell.nils, Cell.nils, Cell.slc (Key.o 1) 1 0 m, .int .i64 (w.xm / 18446744073709551616), .int .u64 (w.xm % 18446744073709551616), .int .i64 (w.xp / 18446744073709551616), .int .u64 (w.xp % 18446744073709551616), .int .i64 (w.xq / 18446744073709551616), .int .u64 (w.xq % 18446744073709551616), Cell.nils]), (1, .agg [.int .i64 (h / 18446744073709551616), .int .u64 (h % 18446744073709551616)]), (2, .c (.ptr { k := Key.l 2, i := 0, o := 0 })), (3, .c (.ptr { k := Key.l 3, i := 0, o := 0 })), (4, .c Cell.nils), (5, .c (.int IntKind.i64 0)), (6, .c (.slc (Key.l 25) 4 0 n)), (14, .c (.ptr { k := Key.l 2, i := 0, o := 13 })), (15, .c (.slc (Key.o 0) 20 0 n)), (16, .c (.int IntKind.i64 (n : Int))), (17, .c (.int IntKind.i64 (n : Int))), (18, .c (.bool false)), (27, .c (.slc (Key.l 25) 4 0 n)), (28, .c (.int IntKind.i64 (n : Int))), (29, .c (.int IntKind.i64 i)), (30, .c (.bool true)), (31, .c (.int IntKind.i64 i)), (9, .c (.int IntKind.i64 i)), (32, .c (.int IntKind.i64 i)), (33, .c (.int IntKind.i64 (i + 1))), (10, .c (.int .i64 j))],
    loc := [(2, { T := 46, sz := 24, own := true, pl := false, els := [[.int .i64 w.tk, .int .i64 (w.h / 18446744073709551616), .int .u64 (w.h % 18446744073709551616), .int .i64 (w.g / 18446744073709551616), .int .u64 (w.g % 18446744073709551616), .int .i64 (w.eps / 18446744073709551616), .int .u64 (w.eps % 18446744073709551616), .int .i64 (w.th / 18446744073709551616), .int .u64 (w.th % 18446744073709551616), .int .i64 (w.bo / 18446744073709551616), .int .u64 (w.bo % 18446744073709551616), .int .i64 w.gr, .int .i64 w.st, Cell.slc (Key.o 0) 20 0 n, Cell.nils, Cell.nils, Cell.slc (Key.o 1) 1 0 m, .int .i64 (w.xm / 18446744073709551616), .int .u64 (w.xm % 18446744073709551616), .int .i64 (w.xp / 18446744073709551616), .int .u64 (w.xp % 18446744073709551616), .int .i64 (w.xq / 18446744073709551616), .int .u64 (w.xq % 18446744073709551616), Cell.nils]] }), (3, { T := 25, sz := 2, own := true, pl := true, els := [[.int .i64 (h / 18446744073709551616), .int .u64 (h % 18446744073709551616)]] }), (24, { T := 28, sz := 4, own := true, pl := true, els := [g] }), (25, { T := 28, sz := 4, own := true, pl := true, els := R })],
    out := ob, cr := cr }
def KRet (ob : List (Option Blk)) (e : Int) (r : Option (Ex × St)) : Prop := ∃ σ, r = some (.ret, σ) ∧ lk 4 σ.env = some (.c .nils) ∧ lk 5 σ.env = some (.c (.int .i64 e)) ∧ σ.out = ob
theorem kin_ok (D : Nat) (w : Wn) (bs : List Bd) (ats : List (List Cell)) (m i j : Nat) (h : Int) (g : List Cell) (ps : List Mo) (cr : List Nat) (hcr : cr = [25, 24, 8, 3, 2] ∨ cr = [12, 11, 25, 24, 8, 3, 2]) (a b : Bd) (p q p' q' : Mo)
    (hn : ps.length = bs.length) (hm : bs.length ≤ 1000) (hij : i < j) (hj : j < bs.length) (hp : ps[i]? = some p) (hq : ps[j]? = some q)
    (hc : evFun T (D+10) 67 [wA w bs.length m, .c (.int .i64 i), .c (.int .i64 j), .agg (Mo.row p), .agg (Mo.row q), .agg [.int .i64 (h / 18446744073709551616), .int .u64 (h % 18446744073709551616)]] (oA bs ats) = some (.tup [.agg (Mo.row p'), .agg (Mo.row q'), .c (.int .i64 0)], (oA bs ats).map some, [])) :
    ∀ K, nextK K ir26_t1 ir26_x1 (evCode (evFun T (D+10)) ir26_l1 (kS1 w bs.length m h ((oA bs ats).map some) i j g (ps.map Mo.row) cr)) =
      K (kS1 w bs.length m h ((oA bs ats).map some) i ((j + 1 : Nat) : Int) g (((ps.set i p').set j q').map Mo.row) [12, 11, 25, 24, 8, 3, 2]) := by
  intro K
  have hi' : (i : Int) < (bs.length : Int) := by omega
  have hj' : (j : Int) < (bs.length : Int) := by omega
  have hne : i ≠ j := by omega
  have e1 : ((j : Int) + 1 + 9223372036854775808) % 18446744073709551616 - 9223372036854775808 = (j : Int) + 1 := by omega
  simp only [wA, oA, Wn.cells, Mo.row] at hc
  obtain ⟨call, hcall⟩ : ∃ call, call = evFun T (D + 10) := ⟨_, rfl⟩
  rw [← hcall] at hc ⊢
  have hi2 : i < bs.length := by omega
  clear hcall hm hij
  rcases hcr with rfl | rfl <;> simp (maxSteps := 2000000) [kS1, oA, ir26_l1, ir26_t1, ir26_x1, hi2, hj, hp, hq, hc, Mo.row, hne, e1, List.map_set, List.getElem?_set, hn, -getElem?_pos, List.getElem?_cons_zero, List.getElem?_cons_succ]
theorem kin_err (D : Nat) (w : Wn) (bs : List Bd) (ats : List (List Cell)) (m i j : Nat) (h e : Int) (g : List Cell) (ps : List Mo) (cr : List Nat) (hcr : cr = [25, 24, 8, 3, 2] ∨ cr = [12, 11, 25, 24, 8, 3, 2]) (p q p' q' : Mo)
    (hn : ps.length = bs.length) (hij : i < j) (hj : j < bs.length) (hp : ps[i]? = some p) (hq : ps[j]? = some q) (he : e ≠ 0)
    (hc : evFun T (D+10) 67 [wA w bs.length m, .c (.int .i64 i), .c (.int .i64 j), .agg (Mo.row p), .agg (Mo.row q), .agg [.int .i64 (h / 18446744073709551616), .int .u64 (h % 18446744073709551616)]] (oA bs ats) = some (.tup [.agg (Mo.row p'), .agg (Mo.row q'), .c (.int .i64 e)], (oA bs ats).map some, [])) :
    ∀ K, KRet ((oA bs ats).map some) e (nextK K ir26_t1 ir26_x1 (evCode (evFun T (D+10)) ir26_l1 (kS1 w bs.length m h ((oA bs ats).map some) i j g (ps.map Mo.row) cr))) := by
  intro K
  have hi' : (i : Int) < (bs.length : Int) := by omega
  have hj' : (j : Int) < (bs.length : Int) := by omega
  have hi2 : i < bs.length := by omega
  have he' : (e != 0) = true := by simpa using he
  simp only [wA, oA, Wn.cells, Mo.row] at hc
  obtain ⟨call, hcall⟩ : ∃ call, call = evFun T (D + 10) := ⟨_, rfl⟩
  rw [← hcall] at hc ⊢
  clear hcall hij he
  unfold KRet
  rcases hcr with rfl | rfl <;> simp (maxSteps := 2000000) [kS1, oA, ir26_l1, ir26_t1, ir26_x1, hi2, hj, hp, hq, hc, Mo.row, he', hn, -getElem?_pos, List.getElem?_cons_zero, List.getElem?_cons_succ]
theorem kin_exit (call : CallF) (w : Wn) (n m i : Nat) (h : Int) (ob : List (Option Blk)) (g : List Cell) (R : List (List Cell)) (cr : List Nat) :
    ∀ K, nextK K ir26_t1 ir26_x1 (evCode call ir26_l1 (kS1 w n m h ob i n g R cr)) = some (.exit 4, ((((kS1 w n m h ob i n g R cr).put (some 34) (.c (.int .i64 n))).put (some 35) (.c (.slc (.l 25) 4 0 n))).put (some 36) (.c (.int .i64 n))).put (some 37) (.c (.bool false))) := by
  intro K
  simp [kS1, ir26_l1, ir26_t1, ir26_x1]
theorem getD_some {α : Type} {l : List α} {i : Nat} {d : α} (h : i < l.length) : l[i]? = some (l.getD i d) := by
  simp [List.getD, h]
theorem ok_set {ps : List Mo} {i : Nat} {p : Mo} (h : ∀ x ∈ ps, x.ok) (hp : p.ok) : ∀ x ∈ ps.set i p, x.ok := fun x hx => by
  rcases List.mem_or_eq_of_mem_set hx with h' | h'
  · exact h x h'
  · exact h' ▸ hp
theorem kin_loop (D : Nat) (w : Wn) (bs : List Bd) (ats : List (List Cell)) (m i : Nat) (h : Int) (g : List Cell) (hm : bs.length ≤ 1000) (hb : ∀ b ∈ bs, b.ok) (kg : mayI w.g) (ke : mayI w.eps) (kh : mayI h) (hi : i < bs.length) :
    ∀ (n j : Nat) (ps : List Mo) (cr : List Nat) (fuel : Nat), (cr = [25, 24, 8, 3, 2] ∨ cr = [12, 11, 25, 24, 8, 3, 2]) → j + n = bs.length → i < j → ps.length = bs.length → (∀ x ∈ ps, x.ok) → n < fuel →
      ((kIn w.g w.eps h bs i n j ps).1 = 0 → (kIn w.g w.eps h bs i n j ps).2.length = bs.length ∧ (∀ x ∈ (kIn w.g w.eps h bs i n j ps).2, x.ok) ∧ ∃ cr', (cr' = [25, 24, 8, 3, 2] ∨ cr' = [12, 11, 25, 24, 8, 3, 2]) ∧
        loopC (evFun T (D+10)) ir26_l1 ir26_t1 ir26_x1 fuel (kS1 w bs.length m h ((oA bs ats).map some) i j g (ps.map Mo.row) cr) =
          some (.exit 4, ((((kS1 w bs.length m h ((oA bs ats).map some) i bs.length g ((kIn w.g w.eps h bs i n j ps).2.map Mo.row) cr').put (some 34) (.c (.int .i64 bs.length))).put (some 35) (.c (.slc (.l 25) 4 0 bs.length))).put (some 36) (.c (.int .i64 bs.length))).put (some 37) (.c (.bool false)))) ∧
      ((kIn w.g w.eps h bs i n j ps).1 ≠ 0 → KRet ((oA bs ats).map some) (kIn w.g w.eps h bs i n j ps).1 (loopC (evFun T (D+10)) ir26_l1 ir26_t1 ir26_x1 fuel (kS1 w bs.length m h ((oA bs ats).map some) i j g (ps.map Mo.row) cr))) := by
  intro n
  induction n with
  | zero =>
    intro j ps cr fuel hcr hjn hij hl hok hf
    obtain ⟨f, rfl⟩ : ∃ f, fuel = f + 1 := ⟨fuel - 1, by omega⟩
    have : j = bs.length := by omega
    subst this
    refine ⟨fun _ => ⟨hl, hok, cr, hcr, ?_⟩, fun h0 => absurd rfl h0⟩
    rw [loopC_K, kin_exit]
    rfl
  | succ n ih =>
    intro j ps cr fuel hcr hjn hij hl hok hf
    obtain ⟨f, rfl⟩ : ∃ f, fuel = f + 1 := ⟨fuel - 1, by omega⟩
    have hj : j < bs.length := by omega
    have hbi := getD_some (d := b0) hi
    have hbj := getD_some (d := b0) hj
    have hpi := getD_some (l := ps) (d := (0, 0)) (show i < ps.length by omega)
    have hpj := getD_some (l := ps) (d := (0, 0)) (show j < ps.length by omega)
    have hc := E_pulledA D w bs ats m i j _ _ _ _ h hbi hbj (hb _ (List.mem_of_getElem? hbi)) (hb _ (List.mem_of_getElem? hbj)) (hok _ (List.mem_of_getElem? hpi)) (hok _ (List.mem_of_getElem? hpj)) kg ke kh
    have hk : kIn w.g w.eps h bs i (n + 1) j ps = if (pulledS w.g w.eps h (bs.getD i b0) (bs.getD j b0) (ps.getD i (0, 0)) (ps.getD j (0, 0))).e = 0 then kIn w.g w.eps h bs i n (j + 1) ((ps.set i (pulledS w.g w.eps h (bs.getD i b0) (bs.getD j b0) (ps.getD i (0, 0)) (ps.getD j (0, 0))).p).set j (pulledS w.g w.eps h (bs.getD i b0) (bs.getD j b0) (ps.getD i (0, 0)) (ps.getD j (0, 0))).q) else ((pulledS w.g w.eps h (bs.getD i b0) (bs.getD j b0) (ps.getD i (0, 0)) (ps.getD j (0, 0))).e, ps) := rfl
    have hpk := pulledS_ok w.g w.eps h (bs.getD i b0) (bs.getD j b0) (ps.getD i (0, 0)) (ps.getD j (0, 0))
    rw [hk]
    generalize pulledS w.g w.eps h (bs.getD i b0) (bs.getD j b0) (ps.getD i (0, 0)) (ps.getD j (0, 0)) = r at *
    rw [loopC_K]
    by_cases he : r.e = 0
    · rw [if_pos he]
      rw [he] at hc
      rw [kin_ok D w bs ats m i j h g ps cr hcr (bs.getD i b0) (bs.getD j b0) _ _ r.p r.q hl hm hij hj hpi hpj hc]
      exact ih (j + 1) _ _ f (.inr rfl) (by omega) (by omega) (by simp [hl]) (ok_set (ok_set hok (hpk he).1) (hpk he).2) (by omega)
    · rw [if_neg he]
      refine ⟨fun h0 => absurd h0 he, fun _ => ?_⟩
      exact kin_err D w bs ats m i j h r.e g ps cr hcr _ _ r.p r.q hl hij hj hpi hpj he hc _
theorem kout_round (call : CallF) (w : Wn) (n m i : Nat) (h : Int) (ob : List (Option Blk)) (g : List Cell) (R R' : List (List Cell)) (cr cr' : List Nat) (hi : i < n) (hn : n ≤ 1000)
    (hl : loopC call ir26_l1 ir26_t1 ir26_x1 18446744073709551616 (kS1 w n m h ob i ((i + 1 : Nat) : Int) g R cr) = some (.exit 4, ((((kS1 w n m h ob i n g R' cr').put (some 34) (.c (.int .i64 n))).put (some 35) (.c (.slc (.l 25) 4 0 n))).put (some 36) (.c (.int .i64 n))).put (some 37) (.c (.bool false)))) :
    ∀ K, nextK K ir26_t2 ir26_x2 (evCode call ir26_l2 (kS2 w n m h ob i g R cr)) = K (kS2 w n m h ob ((i + 1 : Nat) : Int) g R' cr') := by
  intro K
  have hi' : (i : Int) < (n : Int) := by omega
  have e1 : ((i : Int) + 1 + 9223372036854775808) % 18446744073709551616 - 9223372036854775808 = (i : Int) + 1 := by omega
  simp only [kS1, St.put, up] at hl
  simp at hl
  simp (maxSteps := 2000000) [kS2, ir26_l2, ir26_t2, ir26_x2, hi', e1, hl]
theorem kout_err (call : CallF) (w : Wn) (n m i : Nat) (h e : Int) (ob : List (Option Blk)) (g : List Cell) (R : List (List Cell)) (cr : List Nat) (hi : i < n) (hn : n ≤ 1000)
    (hl : KRet ob e (loopC call ir26_l1 ir26_t1 ir26_x1 18446744073709551616 (kS1 w n m h ob i ((i + 1 : Nat) : Int) g R cr))) :
    ∀ K, KRet ob e (nextK K ir26_t2 ir26_x2 (evCode call ir26_l2 (kS2 w n m h ob i g R cr))) := by
  intro K
  obtain ⟨σ, hl, h4, h5, ho⟩ := hl
  have hi' : (i : Int) < (n : Int) := by omega
  have e1 : ((i : Int) + 1 + 9223372036854775808) % 18446744073709551616 - 9223372036854775808 = (i : Int) + 1 := by omega
  simp only [kS1] at hl
  simp at hl
  refine ⟨σ, ?_, h4, h5, ho⟩
  simp (maxSteps := 2000000) [kS2, ir26_l2, ir26_t2, ir26_x2, hi', e1, hl]
theorem kout_exit (call : CallF) (w : Wn) (n m : Nat) (h : Int) (ob : List (Option Blk)) (g : List Cell) (R : List (List Cell)) (cr : List Nat) :
    ∀ K, nextK K ir26_t2 ir26_x2 (evCode call ir26_l2 (kS2 w n m h ob n g R cr)) = some (.exit 2, (kS2 w n m h ob n g R cr).put (some 30) (.c (.bool false))) := by
  intro K
  simp [kS2, ir26_l2, ir26_t2, ir26_x2]
end Go.Ab

namespace Go.Ab
attribute [local simp] runFn args0 e_skip e_reg regC_some e_seq seqC_n seqC_e seqC_r e_cond condC_t condC_f e_block e_loop e_exit e_ret nextC_n nextC_e nextC_r nextK_n nextK_e nextK_r evReg evOps evOp wants fp St.ev St.get St.set St.sets St.put St.apply St.pre preK inB lk up del hits V.cells V.cellsG allPlain Cell.plain pure1 keysOf okUn noK Ev.apart meets mkV splice fillC binC unC mmC eqCs eqC resVs resV one export1 V.keys V.keys1 outKeys valsKeys cellsKeys Cell.keys Blk.keys elsKeys fpCall fpCallG noTup reach getAll outW newW names srcs capsOf onesOf slB rowsOf V.ren V.ren1 Cell.ren Loc.ren locsRen Blk.ren inR outR place nm St.sweep swept St.kill killR lmap delAll St.trim reachL expR ownGet b2i_le wrap_u64 wrap_i64 bits_u64 bits_i64 or_u64 and_u64 Int.fdiv_eq_ediv_of_nonneg word mmC hits
theorem kout_loop (D : Nat) (w : Wn) (bs : List Bd) (ats : List (List Cell)) (m : Nat) (h : Int) (g : List Cell) (hm : bs.length ≤ 1000) (hb : ∀ b ∈ bs, b.ok) (kg : mayI w.g) (ke : mayI w.eps) (kh : mayI h) :
    ∀ (n i : Nat) (ps : List Mo) (cr : List Nat) (fuel : Nat), (cr = [25, 24, 8, 3, 2] ∨ cr = [12, 11, 25, 24, 8, 3, 2]) → i + n = bs.length → ps.length = bs.length → (∀ x ∈ ps, x.ok) → n < fuel →
      ((kOut w.g w.eps h bs n i ps).1 = 0 → (kOut w.g w.eps h bs n i ps).2.length = bs.length ∧ (∀ x ∈ (kOut w.g w.eps h bs n i ps).2, x.ok) ∧ ∃ cr', (cr' = [25, 24, 8, 3, 2] ∨ cr' = [12, 11, 25, 24, 8, 3, 2]) ∧
        loopC (evFun T (D+10)) ir26_l2 ir26_t2 ir26_x2 fuel (kS2 w bs.length m h ((oA bs ats).map some) i g (ps.map Mo.row) cr) =
          some (.exit 2, (kS2 w bs.length m h ((oA bs ats).map some) bs.length g ((kOut w.g w.eps h bs n i ps).2.map Mo.row) cr').put (some 30) (.c (.bool false)))) ∧
      ((kOut w.g w.eps h bs n i ps).1 ≠ 0 → KRet ((oA bs ats).map some) (kOut w.g w.eps h bs n i ps).1 (loopC (evFun T (D+10)) ir26_l2 ir26_t2 ir26_x2 fuel (kS2 w bs.length m h ((oA bs ats).map some) i g (ps.map Mo.row) cr))) := by
  intro n
  induction n with
  | zero =>
    intro i ps cr fuel hcr hin hl hok hf
    obtain ⟨f, rfl⟩ : ∃ f, fuel = f + 1 := ⟨fuel - 1, by omega⟩
    have : i = bs.length := by omega
    subst this
    refine ⟨fun _ => ⟨hl, hok, cr, hcr, ?_⟩, fun h0 => absurd rfl h0⟩
    rw [loopC_K, kout_exit]
    rfl
  | succ n ih =>
    intro i ps cr fuel hcr hin hl hok hf
    obtain ⟨f, rfl⟩ : ∃ f, fuel = f + 1 := ⟨fuel - 1, by omega⟩
    have hi : i < bs.length := by omega
    have hk : kOut w.g w.eps h bs (n + 1) i ps = if (kIn w.g w.eps h bs i (bs.length - (i + 1)) (i + 1) ps).1 = 0 then kOut w.g w.eps h bs n (i + 1) (kIn w.g w.eps h bs i (bs.length - (i + 1)) (i + 1) ps).2 else kIn w.g w.eps h bs i (bs.length - (i + 1)) (i + 1) ps := rfl
    have hin' := kin_loop D w bs ats m i h g hm hb kg ke kh hi (bs.length - (i + 1)) (i + 1) ps cr 18446744073709551616 hcr (by omega) (by omega) hl hok (by omega)
    rw [hk]
    generalize kIn w.g w.eps h bs i (bs.length - (i + 1)) (i + 1) ps = r at *
    rw [loopC_K]
    by_cases he : r.1 = 0
    · rw [if_pos he]
      obtain ⟨q1, q2, cr', q3, q4⟩ := hin'.1 he
      rw [kout_round (evFun T (D+10)) w bs.length m i h _ g _ _ cr cr' hi hm q4]
      exact ih (i + 1) r.2 cr' f q3 (by omega) q1 q2 (by omega)
    · rw [if_neg he]
      refine ⟨fun h0 => absurd h0 he, fun _ => ?_⟩
      exact kout_err (evFun T (D+10)) w bs.length m i h r.1 _ g _ cr hi hm (hin'.2 he) _
theorem moms_len (bs : List Bd) : (moms bs).length = bs.length := by simp [moms]
theorem moms_ok {bs : List Bd} (hb : ∀ b ∈ bs, b.ok) : ∀ x ∈ moms bs, x.ok := fun x hx => by
  simp only [moms, List.mem_map] at hx
  obtain ⟨b, h1, rfl⟩ := hx
  have := hb b h1
  exact ⟨this.2.2.2.1, this.2.2.2.2⟩
theorem E_kickA_ok (D : Nat) (w : Wn) (bs : List Bd) (ats : List (List Cell)) (m : Nat) (h : Int) (hn : bs ≠ []) (hm : bs.length ≤ 1000) (hb : ∀ b ∈ bs, b.ok) (kg : mayI w.g) (ke : mayI w.eps) (kh : mayI h) (he : (kickS w.g w.eps h bs).1 = 0) :
    (kickS w.g w.eps h bs).2.length = bs.length ∧ (∀ x ∈ (kickS w.g w.eps h bs).2, x.ok) ∧
    evFun T (D+11) 26 [wA w bs.length m, .agg [.int .i64 (h / 18446744073709551616), .int .u64 (h % 18446744073709551616)]] (oA bs ats) =
      some (.tup [.c (.slc (.l 0) 4 0 bs.length), .c (.int .i64 0)], (oA bs ats).map some, [⟨28, 4, true, true, (kickS w.g w.eps h bs).2.map Mo.row⟩]) := by
  obtain ⟨g, hl⟩ := kick_take D w bs ats m h hn hm
  obtain ⟨q1, q2, cr', q3, ho⟩ := (kout_loop D w bs ats m h g hm hb kg ke kh bs.length 0 (moms bs) [25, 24, 8, 3, 2] 18446744073709551616 (.inl rfl) (by omega) (moms_len bs) (moms_ok hb) (by omega)).1 he
  refine ⟨q1, q2, ?_⟩
  rw [show kOut w.g w.eps h bs bs.length 0 (moms bs) = kickS w.g w.eps h bs from rfl] at ho
  generalize (kickS w.g w.eps h bs).2 = ps at *
  unfold wA
  simp only [kS0, k24, oA, List.map_cons, List.map_nil, List.append_nil, Wn.cells, St.put, up] at hl
  simp only [kS2, oA, List.map_cons, List.map_nil, St.put, up] at ho
  unfold oA
  simp at hl ho
  clear q1 q2 hb hm hn
  rcases q3 with rfl | rfl
  · rw [ev_fn T26]; (try simp only [Nat.add_assoc, Nat.reduceAdd] at hl ho); obtain ⟨call, hcall⟩ : ∃ call, call = evFun T (D + 10) := ⟨_, rfl⟩; rw [← hcall] at hl ho ⊢; clear hcall; simp (maxSteps := 2000000) [ir26, Wn.cells, hl, ho]
  · rw [ev_fn T26]; (try simp only [Nat.add_assoc, Nat.reduceAdd] at hl ho); obtain ⟨call, hcall⟩ : ∃ call, call = evFun T (D + 10) := ⟨_, rfl⟩; rw [← hcall] at hl ho ⊢; clear hcall; simp (maxSteps := 2000000) [ir26, Wn.cells, hl, ho]
theorem E_kickA_err (D : Nat) (w : Wn) (bs : List Bd) (ats : List (List Cell)) (m : Nat) (h : Int) (hn : bs ≠ []) (hm : bs.length ≤ 1000) (hb : ∀ b ∈ bs, b.ok) (kg : mayI w.g) (ke : mayI w.eps) (kh : mayI h) (he : (kickS w.g w.eps h bs).1 ≠ 0) :
    evFun T (D+11) 26 [wA w bs.length m, .agg [.int .i64 (h / 18446744073709551616), .int .u64 (h % 18446744073709551616)]] (oA bs ats) =
      some (.tup [.c .nils, .c (.int .i64 (kickS w.g w.eps h bs).1)], (oA bs ats).map some, []) := by
  obtain ⟨g, hl⟩ := kick_take D w bs ats m h hn hm
  obtain ⟨σ, ho, h4, h5, h6⟩ := (kout_loop D w bs ats m h g hm hb kg ke kh bs.length 0 (moms bs) [25, 24, 8, 3, 2] 18446744073709551616 (.inl rfl) (by omega) (moms_len bs) (moms_ok hb) (by omega)).2 he
  rw [show kOut w.g w.eps h bs bs.length 0 (moms bs) = kickS w.g w.eps h bs from rfl] at h5
  generalize (kickS w.g w.eps h bs).1 = e at *
  unfold wA
  simp only [kS0, k24, oA, List.map_cons, List.map_nil, List.append_nil, Wn.cells, St.put, up] at hl
  simp only [kS2, oA, List.map_cons, List.map_nil, St.put, up] at ho
  simp only [oA, List.map_cons, List.map_nil] at h6
  unfold oA
  simp at hl ho
  clear hb hm hn
  rw [ev_fn T26]; (try simp only [Nat.add_assoc, Nat.reduceAdd] at hl ho); obtain ⟨call, hcall⟩ : ∃ call, call = evFun T (D + 10) := ⟨_, rfl⟩; rw [← hcall] at hl ho ⊢; clear hcall; simp (maxSteps := 2000000) [ir26, Wn.cells, hl, ho, h4, h5, h6]
/-- Of no bodies. -/
theorem E_kick0 (D : Nat) (w : Wn) (h : Int) : evFun T (D+11) 26 [.agg (w.cells .nils .nils .nils .nils .nils), .agg [.int .i64 (h / 18446744073709551616), .int .u64 (h % 18446744073709551616)]] [] =
      some (.tup [.c .nils, .c (.int .i64 0)], [], []) := by
  obtain ⟨call, hcall⟩ : ∃ call, call = evFun T (D + 10) := ⟨_, rfl⟩
  rw [ev_fn T26]
  rw [← hcall]; clear hcall
  simp (maxSteps := 2000000) [ir26, Wn.cells, ir26_l0, ir26_t0, ir26_x0, ir26_l2, ir26_t2, ir26_x2, loopC_step]
end Go.Ab

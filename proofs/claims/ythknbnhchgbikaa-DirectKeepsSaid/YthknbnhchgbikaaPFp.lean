/- Words for this claim: an evaluator of the program's functions, and what they come to. -/
import Derived.Test.YthknbnhchgbikaaPFo
set_option linter.all false
namespace Go.Ab
attribute [local simp] runFn args0 e_skip e_reg regC_some e_seq seqC_n seqC_e seqC_r e_cond condC_t condC_f e_block e_loop e_exit e_ret nextC_n nextC_e nextC_r nextK_n nextK_e nextK_r evReg evOps evOp wants fp St.ev St.get St.set St.sets St.put St.apply St.pre preK inB lk up del hits V.cells V.cellsG allPlain Cell.plain pure1 keysOf okUn noK Ev.apart meets mkV splice fillC binC unC mmC eqCs eqC resVs resV one export1 V.keys V.keys1 outKeys valsKeys cellsKeys Cell.keys Blk.keys elsKeys fpCall fpCallG noTup reach getAll outW newW names srcs capsOf onesOf slB rowsOf V.ren V.ren1 Cell.ren Loc.ren locsRen Blk.ren inR outR place nm St.sweep swept St.kill killR lmap delAll St.trim reachL expR ownGet b2i_le wrap_u64 wrap_i64 bits_u64 bits_i64 or_u64 and_u64 Int.fdiv_eq_ediv_of_nonneg word mmC hits
def rS1 (w : Wn) (n m : Nat) (h : Int) (ob : List (Option Blk)) (i j : Int) (R : List (List Cell)) (cr : List Nat) : St :=
  { env := [(0, .agg [.int .i64 w.tk, .int .i64 (w.h / 18446744073709551616), .int .u64 (w.h % 18446744073709551616), .int .i64 (w.g / 18446744073709551616), .int .u64 (w.g % 18446744073709551616), .int .i64 (w.eps / 18446744073709551616), .int .u64 (w.eps % 18446744073709551616), .int .i64 (w.th / 18446744073709551616), .int .u64 (w.th % 18446744073709551616), .int .i64 (w.bo / 18446744073709551616), .int .u64 (w.bo % 18446744073709551616), .int .i64 w.gr, .int .i64 w.st, Cell.slc (Key.o 0) 20 0 n, Cell.nils, Cell.nils, Cell.slc (Key.o 1) 1 0 m, .int .i64 (w.xm / 18446744073709551616), .int .u64 (w.xm % 18446744073709551616), .int .i64 (w.xp / 18446744073709551616), .int .u64 (w.xp % 18446744073709551616), .int .i64 (w.xq / 18446744073709551616), .int .u64 (w.xq % 18446744073709551616), Cell.nils]), (1, .agg [.int .i64 (h / 18446744073709551616), .int .u64 (h % 18446744073709551616)]), (2, .c (.ptr { k := Key.l 2, i := 0, o := 0 })), (3, .c (.ptr { k := Key.l 3, i := 0, o := 0 })), (4, .c (.ptr { k := Key.l 4, i := 0, o := 0 })), (11, .agg [.int .i64 w.tk, .int .i64 (w.h / 18446744073709551616), .int .u64 (w.h % 18446744073709551616), .int .i64 (w.g / 18446744073709551616), .int .u64 (w.g % 18446744073709551616), .int .i64 (w.eps / 18446744073709551616), .int .u64 (w.eps % 18446744073709551616), .int .i64 (w.th / 18446744073709551616), .int .u64 (w.th % 18446744073709551616), .int .i64 (w.bo / 18446744073709551616), .int .u64 (w.bo % 18446744073709551616), .int .i64 w.gr, .int .i64 w.st, Cell.slc (Key.o 0) 20 0 n, Cell.nils, Cell.nils, Cell.slc (Key.o 1) 1 0 m, .int .i64 (w.xm / 18446744073709551616), .int .u64 (w.xm % 18446744073709551616), .int .i64 (w.xp / 18446744073709551616), .int .u64 (w.xp % 18446744073709551616), .int .i64 (w.xq / 18446744073709551616), .int .u64 (w.xq % 18446744073709551616), Cell.nils]), (12, .c (.slc (Key.l 13000) 4 0 n)), (5, .c (.slc (Key.l 13000) 4 0 n)), (6, .c (.int .i64 i)), (13, .c (.int .i64 i)), (14, .c (.slc (Key.l 13000) 4 0 n)), (15, .c (.int .i64 n)), (16, .c (.bool true)), (19, .c (.int .i64 i)), (20, .c (.int .i64 (i + 1))), (7, .c (.int .i64 j))],
    loc := [(2, { T := 46, sz := 24, own := true, pl := false, els := [[.int .i64 w.tk, .int .i64 (w.h / 18446744073709551616), .int .u64 (w.h % 18446744073709551616), .int .i64 (w.g / 18446744073709551616), .int .u64 (w.g % 18446744073709551616), .int .i64 (w.eps / 18446744073709551616), .int .u64 (w.eps % 18446744073709551616), .int .i64 (w.th / 18446744073709551616), .int .u64 (w.th % 18446744073709551616), .int .i64 (w.bo / 18446744073709551616), .int .u64 (w.bo % 18446744073709551616), .int .i64 w.gr, .int .i64 w.st, Cell.slc (Key.o 0) 20 0 n, Cell.nils, Cell.nils, Cell.slc (Key.o 1) 1 0 m, .int .i64 (w.xm / 18446744073709551616), .int .u64 (w.xm % 18446744073709551616), .int .i64 (w.xp / 18446744073709551616), .int .u64 (w.xp % 18446744073709551616), .int .i64 (w.xq / 18446744073709551616), .int .u64 (w.xq % 18446744073709551616), Cell.nils]] }), (3, { T := 25, sz := 2, own := true, pl := true, els := [[.int .i64 (h / 18446744073709551616), .int .u64 (h % 18446744073709551616)]] }), (4, { T := 53, sz := 2, own := true, pl := false, els := [[Cell.nils, .int .i64 0]] }), (13000, { T := 28, sz := 4, own := true, pl := true, els := R })],
    out := ob, cr := cr }

def RRet (ob : List (Option Blk)) (e : Int) (r : Option (Ex × St)) : Prop := ∃ σ, r = some (.ret, σ) ∧ lk 4 σ.env = some (.c (.ptr { k := .l 4, i := 0, o := 0 })) ∧ lk 4 σ.loc = some ⟨53, 2, true, false, [[.nils, .int .i64 e]]⟩ ∧ σ.out = ob
theorem rin_ok (D : Nat) (w : Wn) (bs : List Bd) (ats : List (List Cell)) (m i j : Nat) (h : Int) (ps : List Mo) (cr : List Nat) (hcr : cr = [13000, 4, 3, 2] ∨ cr = [10, 9, 8, 13000, 4, 3, 2]) (b : Bd) (p q : Mo) (kx ky : Int) (p1 p2 q1 q2 : Int)
    (hn : ps.length = bs.length) (hm : bs.length ≤ 1000) (hij : i < j) (hj : bs[j]? = some b) (hp : ps[i]? = some p) (hq : ps[j]? = some q)
    (hc : evFun T (D+11) 69 [wA w bs.length m, .c (.int .i64 i), .agg [.int .i64 ((b.m) / 18446744073709551616), .int .u64 ((b.m) % 18446744073709551616)], .agg [.int .i64 ((b.x) / 18446744073709551616), .int .u64 ((b.x) % 18446744073709551616), .int .i64 ((b.y) / 18446744073709551616), .int .u64 ((b.y) % 18446744073709551616)], .agg [.int .i64 (h / 18446744073709551616), .int .u64 (h % 18446744073709551616)]] (oA bs ats) = some (.agg [.int .i64 ((kx) / 18446744073709551616), .int .u64 ((kx) % 18446744073709551616), .int .i64 ((ky) / 18446744073709551616), .int .u64 ((ky) % 18446744073709551616), .int .i64 0], (oA bs ats).map some, []))
    (ha : evFun T (D+11) 31 [.agg [.int .i64 ((p.1) / 18446744073709551616), .int .u64 ((p.1) % 18446744073709551616), .int .i64 ((p.2) / 18446744073709551616), .int .u64 ((p.2) % 18446744073709551616)], .agg [.int .i64 ((kx) / 18446744073709551616), .int .u64 ((kx) % 18446744073709551616), .int .i64 ((ky) / 18446744073709551616), .int .u64 ((ky) % 18446744073709551616)]] [] = some (.agg [.int .i64 ((p1) / 18446744073709551616), .int .u64 ((p1) % 18446744073709551616), .int .i64 ((p2) / 18446744073709551616), .int .u64 ((p2) % 18446744073709551616), .int .i64 0], [], []))
    (hs : evFun T (D+11) 33 [.agg [.int .i64 ((q.1) / 18446744073709551616), .int .u64 ((q.1) % 18446744073709551616), .int .i64 ((q.2) / 18446744073709551616), .int .u64 ((q.2) % 18446744073709551616)], .agg [.int .i64 ((kx) / 18446744073709551616), .int .u64 ((kx) % 18446744073709551616), .int .i64 ((ky) / 18446744073709551616), .int .u64 ((ky) % 18446744073709551616)]] [] = some (.agg [.int .i64 ((q1) / 18446744073709551616), .int .u64 ((q1) % 18446744073709551616), .int .i64 ((q2) / 18446744073709551616), .int .u64 ((q2) % 18446744073709551616), .int .i64 0], [], [])) :
    ∀ K, nextK K ir27_t0 ir27_x0 (evCode (evFun T (D+11)) ir27_l0 (rS1 w bs.length m h ((oA bs ats).map some) i j (ps.map Mo.row) cr)) =
      K (rS1 w bs.length m h ((oA bs ats).map some) i ((j + 1 : Nat) : Int) (((ps.set i (p1, p2)).set j (q1, q2)).map Mo.row) [10, 9, 8, 13000, 4, 3, 2]) := by
  intro K
  have hjl := (List.getElem?_eq_some_iff.1 hj).1
  have hi' : (i : Int) < (bs.length : Int) := by omega
  have hj' : (j : Int) < (bs.length : Int) := by omega
  have hne : i ≠ j := by omega
  have hi2 : i < bs.length := by omega
  have e1 : ((j : Int) + 1 + 9223372036854775808) % 18446744073709551616 - 9223372036854775808 = (j : Int) + 1 := by omega
  simp only [wA, oA, Wn.cells] at hc
  obtain ⟨call, hcall⟩ : ∃ call, call = evFun T (D + 11) := ⟨_, rfl⟩
  rw [← hcall] at hc ha hs ⊢
  clear hcall
  clear hm hij
  rcases hcr with rfl | rfl <;> simp (maxSteps := 2000000) [rS1, oA, ir27_l0, ir27_t0, ir27_x0, Bd.row, hi2, hjl, hj, hp, hq, hc, ha, hs, Mo.row, hne, e1, List.map_set, List.getElem?_set, hn, -getElem?_pos, List.getElem?_cons_zero, List.getElem?_cons_succ]
theorem rin_e1 (D : Nat) (w : Wn) (bs : List Bd) (ats : List (List Cell)) (m i j : Nat) (h : Int) (ps : List Mo) (cr : List Nat) (hcr : cr = [13000, 4, 3, 2] ∨ cr = [10, 9, 8, 13000, 4, 3, 2]) (b : Bd) (p q : Mo) (kx ky : Int) (e : Int)
    (hn : ps.length = bs.length) (hm : bs.length ≤ 1000) (hij : i < j) (hj : bs[j]? = some b) (hp : ps[i]? = some p) (hq : ps[j]? = some q)
    (he : e ≠ 0)
    (hc : evFun T (D+11) 69 [wA w bs.length m, .c (.int .i64 i), .agg [.int .i64 ((b.m) / 18446744073709551616), .int .u64 ((b.m) % 18446744073709551616)], .agg [.int .i64 ((b.x) / 18446744073709551616), .int .u64 ((b.x) % 18446744073709551616), .int .i64 ((b.y) / 18446744073709551616), .int .u64 ((b.y) % 18446744073709551616)], .agg [.int .i64 (h / 18446744073709551616), .int .u64 (h % 18446744073709551616)]] (oA bs ats) = some (.agg [.int .i64 ((kx) / 18446744073709551616), .int .u64 ((kx) % 18446744073709551616), .int .i64 ((ky) / 18446744073709551616), .int .u64 ((ky) % 18446744073709551616), .int .i64 e], (oA bs ats).map some, [])) :
    ∀ K, RRet ((oA bs ats).map some) e (nextK K ir27_t0 ir27_x0 (evCode (evFun T (D+11)) ir27_l0 (rS1 w bs.length m h ((oA bs ats).map some) i j (ps.map Mo.row) cr))) := by
  intro K
  have hjl := (List.getElem?_eq_some_iff.1 hj).1
  have hi' : (i : Int) < (bs.length : Int) := by omega
  have hj' : (j : Int) < (bs.length : Int) := by omega
  have hne : i ≠ j := by omega
  have hi2 : i < bs.length := by omega
  have e1 : ((j : Int) + 1 + 9223372036854775808) % 18446744073709551616 - 9223372036854775808 = (j : Int) + 1 := by omega
  have he' : (e != 0) = true := by simpa using he
  simp only [wA, oA, Wn.cells] at hc
  obtain ⟨call, hcall⟩ : ∃ call, call = evFun T (D + 11) := ⟨_, rfl⟩
  rw [← hcall] at hc ⊢
  clear hcall
  clear he
  clear hm hij
  unfold RRet
  rcases hcr with rfl | rfl <;> simp (maxSteps := 2000000) [rS1, oA, ir27_l0, ir27_t0, ir27_x0, Bd.row, hi2, hjl, hj, hp, hq, hc, he', Mo.row, hne, e1, List.map_set, List.getElem?_set, hn, -getElem?_pos, List.getElem?_cons_zero, List.getElem?_cons_succ]
theorem rin_e2 (D : Nat) (w : Wn) (bs : List Bd) (ats : List (List Cell)) (m i j : Nat) (h : Int) (ps : List Mo) (cr : List Nat) (hcr : cr = [13000, 4, 3, 2] ∨ cr = [10, 9, 8, 13000, 4, 3, 2]) (b : Bd) (p q : Mo) (kx ky : Int) (p1 p2 e : Int)
    (hn : ps.length = bs.length) (hm : bs.length ≤ 1000) (hij : i < j) (hj : bs[j]? = some b) (hp : ps[i]? = some p) (hq : ps[j]? = some q)
    (he : e ≠ 0)
    (hc : evFun T (D+11) 69 [wA w bs.length m, .c (.int .i64 i), .agg [.int .i64 ((b.m) / 18446744073709551616), .int .u64 ((b.m) % 18446744073709551616)], .agg [.int .i64 ((b.x) / 18446744073709551616), .int .u64 ((b.x) % 18446744073709551616), .int .i64 ((b.y) / 18446744073709551616), .int .u64 ((b.y) % 18446744073709551616)], .agg [.int .i64 (h / 18446744073709551616), .int .u64 (h % 18446744073709551616)]] (oA bs ats) = some (.agg [.int .i64 ((kx) / 18446744073709551616), .int .u64 ((kx) % 18446744073709551616), .int .i64 ((ky) / 18446744073709551616), .int .u64 ((ky) % 18446744073709551616), .int .i64 0], (oA bs ats).map some, []))
    (ha : evFun T (D+11) 31 [.agg [.int .i64 ((p.1) / 18446744073709551616), .int .u64 ((p.1) % 18446744073709551616), .int .i64 ((p.2) / 18446744073709551616), .int .u64 ((p.2) % 18446744073709551616)], .agg [.int .i64 ((kx) / 18446744073709551616), .int .u64 ((kx) % 18446744073709551616), .int .i64 ((ky) / 18446744073709551616), .int .u64 ((ky) % 18446744073709551616)]] [] = some (.agg [.int .i64 ((p1) / 18446744073709551616), .int .u64 ((p1) % 18446744073709551616), .int .i64 ((p2) / 18446744073709551616), .int .u64 ((p2) % 18446744073709551616), .int .i64 e], [], [])) :
    ∀ K, RRet ((oA bs ats).map some) e (nextK K ir27_t0 ir27_x0 (evCode (evFun T (D+11)) ir27_l0 (rS1 w bs.length m h ((oA bs ats).map some) i j (ps.map Mo.row) cr))) := by
  intro K
  have hjl := (List.getElem?_eq_some_iff.1 hj).1
  have hi' : (i : Int) < (bs.length : Int) := by omega
  have hj' : (j : Int) < (bs.length : Int) := by omega
  have hne : i ≠ j := by omega
  have hi2 : i < bs.length := by omega
  have e1 : ((j : Int) + 1 + 9223372036854775808) % 18446744073709551616 - 9223372036854775808 = (j : Int) + 1 := by omega
  have he' : (e != 0) = true := by simpa using he
  simp only [wA, oA, Wn.cells] at hc
  obtain ⟨call, hcall⟩ : ∃ call, call = evFun T (D + 11) := ⟨_, rfl⟩
  rw [← hcall] at hc ha ⊢
  clear hcall
  clear he
  clear hm hij
  unfold RRet
  rcases hcr with rfl | rfl <;> simp (maxSteps := 2000000) [rS1, oA, ir27_l0, ir27_t0, ir27_x0, Bd.row, hi2, hjl, hj, hp, hq, hc, ha, he', Mo.row, hne, e1, List.map_set, List.getElem?_set, hn, -getElem?_pos, List.getElem?_cons_zero, List.getElem?_cons_succ]
theorem rin_e3 (D : Nat) (w : Wn) (bs : List Bd) (ats : List (List Cell)) (m i j : Nat) (h : Int) (ps : List Mo) (cr : List Nat) (hcr : cr = [13000, 4, 3, 2] ∨ cr = [10, 9, 8, 13000, 4, 3, 2]) (b : Bd) (p q : Mo) (kx ky : Int) (p1 p2 q1 q2 e : Int)
    (hn : ps.length = bs.length) (hm : bs.length ≤ 1000) (hij : i < j) (hj : bs[j]? = some b) (hp : ps[i]? = some p) (hq : ps[j]? = some q)
    (he : e ≠ 0)
    (hc : evFun T (D+11) 69 [wA w bs.length m, .c (.int .i64 i), .agg [.int .i64 ((b.m) / 18446744073709551616), .int .u64 ((b.m) % 18446744073709551616)], .agg [.int .i64 ((b.x) / 18446744073709551616), .int .u64 ((b.x) % 18446744073709551616), .int .i64 ((b.y) / 18446744073709551616), .int .u64 ((b.y) % 18446744073709551616)], .agg [.int .i64 (h / 18446744073709551616), .int .u64 (h % 18446744073709551616)]] (oA bs ats) = some (.agg [.int .i64 ((kx) / 18446744073709551616), .int .u64 ((kx) % 18446744073709551616), .int .i64 ((ky) / 18446744073709551616), .int .u64 ((ky) % 18446744073709551616), .int .i64 0], (oA bs ats).map some, []))
    (ha : evFun T (D+11) 31 [.agg [.int .i64 ((p.1) / 18446744073709551616), .int .u64 ((p.1) % 18446744073709551616), .int .i64 ((p.2) / 18446744073709551616), .int .u64 ((p.2) % 18446744073709551616)], .agg [.int .i64 ((kx) / 18446744073709551616), .int .u64 ((kx) % 18446744073709551616), .int .i64 ((ky) / 18446744073709551616), .int .u64 ((ky) % 18446744073709551616)]] [] = some (.agg [.int .i64 ((p1) / 18446744073709551616), .int .u64 ((p1) % 18446744073709551616), .int .i64 ((p2) / 18446744073709551616), .int .u64 ((p2) % 18446744073709551616), .int .i64 0], [], []))
    (hs : evFun T (D+11) 33 [.agg [.int .i64 ((q.1) / 18446744073709551616), .int .u64 ((q.1) % 18446744073709551616), .int .i64 ((q.2) / 18446744073709551616), .int .u64 ((q.2) % 18446744073709551616)], .agg [.int .i64 ((kx) / 18446744073709551616), .int .u64 ((kx) % 18446744073709551616), .int .i64 ((ky) / 18446744073709551616), .int .u64 ((ky) % 18446744073709551616)]] [] = some (.agg [.int .i64 ((q1) / 18446744073709551616), .int .u64 ((q1) % 18446744073709551616), .int .i64 ((q2) / 18446744073709551616), .int .u64 ((q2) % 18446744073709551616), .int .i64 e], [], [])) :
    ∀ K, RRet ((oA bs ats).map some) e (nextK K ir27_t0 ir27_x0 (evCode (evFun T (D+11)) ir27_l0 (rS1 w bs.length m h ((oA bs ats).map some) i j (ps.map Mo.row) cr))) := by
  intro K
  have hjl := (List.getElem?_eq_some_iff.1 hj).1
  have hi' : (i : Int) < (bs.length : Int) := by omega
  have hj' : (j : Int) < (bs.length : Int) := by omega
  have hne : i ≠ j := by omega
  have hi2 : i < bs.length := by omega
  have e1 : ((j : Int) + 1 + 9223372036854775808) % 18446744073709551616 - 9223372036854775808 = (j : Int) + 1 := by omega
  have he' : (e != 0) = true := by simpa using he
  simp only [wA, oA, Wn.cells] at hc
  obtain ⟨call, hcall⟩ : ∃ call, call = evFun T (D + 11) := ⟨_, rfl⟩
  rw [← hcall] at hc ha hs ⊢
  clear hcall
  clear he
  clear hm hij
  unfold RRet
  rcases hcr with rfl | rfl <;> simp (maxSteps := 2000000) [rS1, oA, ir27_l0, ir27_t0, ir27_x0, Bd.row, hi2, hjl, hj, hp, hq, hc, ha, hs, he', Mo.row, hne, e1, List.map_set, List.getElem?_set, hn, -getElem?_pos, List.getElem?_cons_zero, List.getElem?_cons_succ]
def rX (n : Nat) (j : Int) (S : St) : St := (((S.put (some 21) (.c (.int .i64 j))).put (some 22) (.c (.slc (.l 13000) 4 0 n))).put (some 23) (.c (.int .i64 n))).put (some 24) (.c (.bool false))
theorem rin_exit (call : CallF) (w : Wn) (n m i : Nat) (h : Int) (ob : List (Option Blk)) (R : List (List Cell)) (cr : List Nat) :
    ∀ K, nextK K ir27_t0 ir27_x0 (evCode call ir27_l0 (rS1 w n m h ob i n R cr)) = some (.exit 2, rX n n (rS1 w n m h ob i n R cr)) := by
  intro K
  simp [rS1, rX, ir27_l0, ir27_t0, ir27_x0]
end Go.Ab

/- Words for this claim: an evaluator of the program's functions, and what they come to. -/
import Derived.Test.YthknbnhchgbikaaPFr
import Derived.Test.YthknbnhchgbikaaAb7
set_option linter.all false
namespace Go.Ab
attribute [local simp] runFn args0 e_skip e_reg regC_some e_seq seqC_n seqC_e seqC_r e_cond condC_t condC_f e_block e_loop e_exit e_ret nextC_n nextC_e nextC_r nextK_n nextK_e nextK_r evReg evOps evOp wants fp St.ev St.get St.set St.sets St.put St.apply St.pre preK inB lk up del hits V.cells V.cellsG allPlain Cell.plain pure1 keysOf okUn noK Ev.apart meets mkV splice fillC binC unC mmC eqCs eqC resVs resV one export1 V.keys V.keys1 outKeys valsKeys cellsKeys Cell.keys Blk.keys elsKeys fpCall fpCallG noTup reach getAll outW newW names srcs capsOf onesOf slB rowsOf V.ren V.ren1 Cell.ren Loc.ren locsRen Blk.ren inR outR place nm St.sweep swept St.kill killR lmap delAll St.trim reachL expR ownGet b2i_le wrap_u64 wrap_i64 bits_u64 bits_i64 or_u64 and_u64 Int.fdiv_eq_ediv_of_nonneg word mmC hits
theorem E_withA (D : Nat) (w : Wn) (bs : List Bd) (ats : List (List Cell)) (m : Nat) (hm : bs.length ≤ 1000) (hn : bs ≠ []) :
    evFun T (D+1) 25 [wA w bs.length m, .c (.slc (.o 0) 20 0 bs.length)] (oA bs ats) =
      some (.agg (w.cells (.slc (.l 0) 20 0 bs.length) .nils .nils (.slc (.o 1) 1 0 m) .nils), (oA bs ats).map some, [⟨65, 20, true, true, bs.map Bd.row⟩]) := by
  have h1 : bs.length ≤ 1073741824 := by omega
  have h0 : 0 < bs.length := List.length_pos_iff.2 hn
  have h2 : (bs.map Bd.row).take bs.length = bs.map Bd.row := List.take_of_length_le (by simp)
  have h3 : bs.length ≠ 0 := by omega
  unfold wA oA
  obtain ⟨call, hcall⟩ : ∃ call, call = evFun T D := ⟨_, rfl⟩
  rw [ev_fn T25]
  rw [← hcall]; clear hcall
  simp (maxSteps := 2000000) [ir25, Wn.cells, maxRow, h1, h2]
theorem E_with0 (D : Nat) (w : Wn) :
    evFun T (D+1) 25 [.agg (w.cells .nils .nils .nils .nils .nils), .c .nils] [] =
      some (.agg (w.cells (.slc (.l 0) 20 0 0) .nils .nils .nils .nils), [], [⟨65, 20, true, true, []⟩]) := by
  obtain ⟨call, hcall⟩ : ∃ call, call = evFun T D := ⟨_, rfl⟩
  rw [ev_fn T25]
  rw [← hcall]; clear hcall
  simp (maxSteps := 2000000) [ir25, Wn.cells, maxRow]
theorem E_kick00 (D : Nat) (w : Wn) (h : Int) : evFun T (D+11) 26 [.agg (w.cells (.slc (.o 0) 20 0 0) .nils .nils .nils .nils), .agg [.int .i64 (h / 18446744073709551616), .int .u64 (h % 18446744073709551616)]] [⟨65, 20, true, true, []⟩] =
      some (.tup [.c .nils, .c (.int .i64 0)], [some ⟨65, 20, true, true, []⟩], []) := by
  obtain ⟨call, hcall⟩ : ∃ call, call = evFun T (D + 10) := ⟨_, rfl⟩
  rw [ev_fn T26]
  rw [← hcall]; clear hcall
  simp (maxSteps := 2000000) [ir26, Wn.cells, ir26_l0, ir26_t0, ir26_x0, ir26_l2, ir26_t2, ir26_x2, loopC_step]
def qS (ww : Wn) (ns : List Int) (how h : Int) (bs : List Bd) (ps : List Mo) (N : Nat) (L : List Bd) (A B : Mo) (k : Int) : St :=
  { env := [(0, .c (.slc (Key.o 0) 1 0 ns.length)), (1, .c (.int IntKind.u8 how)), (2, .c (.int IntKind.u64 h)), (6, .c (.bool false)), (18, .c (.slc (Key.o 0) 1 0 ns.length)), (19, .c (.int IntKind.u8 how)), (20, .agg [.int .i64 ww.tk, .int .i64 (ww.h / 18446744073709551616), .int .u64 (ww.h % 18446744073709551616), .int .i64 (ww.g / 18446744073709551616), .int .u64 (ww.g % 18446744073709551616), .int .i64 (ww.eps / 18446744073709551616), .int .u64 (ww.eps % 18446744073709551616), .int .i64 (ww.th / 18446744073709551616), .int .u64 (ww.th % 18446744073709551616), .int .i64 (ww.bo / 18446744073709551616), .int .u64 (ww.bo % 18446744073709551616), .int .i64 ww.gr, .int .i64 ww.st, Cell.slc (Key.l 21000) 20 0 N, Cell.nils, Cell.nils, Cell.slc (Key.l 21001) 1 0 N, .int .i64 (ww.xm / 18446744073709551616), .int .u64 (ww.xm % 18446744073709551616), .int .i64 (ww.xp / 18446744073709551616), .int .u64 (ww.xp % 18446744073709551616), .int .i64 (ww.xq / 18446744073709551616), .int .u64 (ww.xq % 18446744073709551616), Cell.nils]), (7, .c (.ptr { k := Key.l 7, i := 0, o := 0 })), (21, .c (.int IntKind.u64 h)), (22, .agg [.int .i64 0, .int .u64 h]), (8, .c (.ptr { k := Key.l 8, i := 0, o := 0 })), (24, .agg [.int .i64 ww.tk, .int .i64 (ww.h / 18446744073709551616), .int .u64 (ww.h % 18446744073709551616), .int .i64 (ww.g / 18446744073709551616), .int .u64 (ww.g % 18446744073709551616), .int .i64 (ww.eps / 18446744073709551616), .int .u64 (ww.eps % 18446744073709551616), .int .i64 (ww.th / 18446744073709551616), .int .u64 (ww.th % 18446744073709551616), .int .i64 (ww.bo / 18446744073709551616), .int .u64 (ww.bo % 18446744073709551616), .int .i64 ww.gr, .int .i64 ww.st, Cell.slc (Key.l 21000) 20 0 N, Cell.nils, Cell.nils, Cell.slc (Key.l 21001) 1 0 N, .int .i64 (ww.xm / 18446744073709551616), .int .u64 (ww.xm % 18446744073709551616), .int .i64 (ww.xp / 18446744073709551616), .int .u64 (ww.xp % 18446744073709551616), .int .i64 (ww.xq / 18446744073709551616), .int .u64 (ww.xq % 18446744073709551616), Cell.nils]), (25, .agg [.int .i64 0, .int .u64 h]), (26, .tup [.c (.slc (Key.l 27000) 4 0 N), .c (.int IntKind.i64 0)]), (23, .tup [.c (.slc (Key.l 27000) 4 0 N), .c (.int IntKind.i64 0)]), (27, .c (.slc (Key.l 27000) 4 0 N)), (28, .c (.int IntKind.i64 0)), (9, .c (.slc (Key.l 27000) 4 0 N)), (10, .c (.int IntKind.i64 0)), (29, .c (.int IntKind.i64 0)), (30, .c (.int IntKind.i64 0)), (31, .c (.bool false)), (38, .c (.slc (Key.l 27000) 4 0 N)), (39, .c (.int IntKind.i64 (N : Int))), (40, .c (.ptr { k := Key.l 7, i := 0, o := 13 })), (41, .c (.slc (Key.l 21000) 20 0 N)), (42, .c (.int IntKind.i64 (N : Int))), (43, .c (.bool false)), (11, .c (.ptr { k := Key.l 11, i := 0, o := 0 })), (12, .c (.ptr { k := Key.l 12, i := 0, o := 0 })), (44, .agg [.int .i64 ww.tk, .int .i64 (ww.h / 18446744073709551616), .int .u64 (ww.h % 18446744073709551616), .int .i64 (ww.g / 18446744073709551616), .int .u64 (ww.g % 18446744073709551616), .int .i64 (ww.eps / 18446744073709551616), .int .u64 (ww.eps % 18446744073709551616), .int .i64 (ww.th / 18446744073709551616), .int .u64 (ww.th % 18446744073709551616), .int .i64 (ww.bo / 18446744073709551616), .int .u64 (ww.bo % 18446744073709551616), .int .i64 ww.gr, .int .i64 ww.st, Cell.slc (Key.l 21000) 20 0 N, Cell.nils, Cell.nils, Cell.slc (Key.l 21001) 1 0 N, .int .i64 (ww.xm / 18446744073709551616), .int .u64 (ww.xm % 18446744073709551616), .int .i64 (ww.xp / 18446744073709551616), .int .u64 (ww.xp % 18446744073709551616), .int .i64 (ww.xq / 18446744073709551616), .int .u64 (ww.xq % 18446744073709551616), Cell.nils]), (45, .c (.ptr { k := Key.l 7, i := 0, o := 13 })), (46, .c (.slc (Key.l 21000) 20 0 N)), (47, .agg [.int .i64 ww.tk, .int .i64 (ww.h / 18446744073709551616), .int .u64 (ww.h % 18446744073709551616), .int .i64 (ww.g / 18446744073709551616), .int .u64 (ww.g % 18446744073709551616), .int .i64 (ww.eps / 18446744073709551616), .int .u64 (ww.eps % 18446744073709551616), .int .i64 (ww.th / 18446744073709551616), .int .u64 (ww.th % 18446744073709551616), .int .i64 (ww.bo / 18446744073709551616), .int .u64 (ww.bo % 18446744073709551616), .int .i64 ww.gr, .int .i64 ww.st, Cell.slc (Key.l 48000) 20 0 N, Cell.nils, Cell.nils, Cell.slc (Key.l 21001) 1 0 N, .int .i64 (ww.xm / 18446744073709551616), .int .u64 (ww.xm % 18446744073709551616), .int .i64 (ww.xp / 18446744073709551616), .int .u64 (ww.xp % 18446744073709551616), .int .i64 (ww.xq / 18446744073709551616), .int .u64 (ww.xq % 18446744073709551616), Cell.nils]), (13, .c (.ptr { k := Key.l 13, i := 0, o := 0 })), (14, .c (.int .i64 k))],
    loc := [(21000, { T := 65, sz := 20, own := true, pl := true, els := List.map Bd.row bs }), (21001, { T := 3, sz := 1, own := true, pl := true, els := List.replicate N [.int .i64 (-1)] }), (7, { T := 46, sz := 24, own := true, pl := false, els := [[.int .i64 ww.tk, .int .i64 (ww.h / 18446744073709551616), .int .u64 (ww.h % 18446744073709551616), .int .i64 (ww.g / 18446744073709551616), .int .u64 (ww.g % 18446744073709551616), .int .i64 (ww.eps / 18446744073709551616), .int .u64 (ww.eps % 18446744073709551616), .int .i64 (ww.th / 18446744073709551616), .int .u64 (ww.th % 18446744073709551616), .int .i64 (ww.bo / 18446744073709551616), .int .u64 (ww.bo % 18446744073709551616), .int .i64 ww.gr, .int .i64 ww.st, Cell.slc (Key.l 21000) 20 0 N, Cell.nils, Cell.nils, Cell.slc (Key.l 21001) 1 0 N, .int .i64 (ww.xm / 18446744073709551616), .int .u64 (ww.xm % 18446744073709551616), .int .i64 (ww.xp / 18446744073709551616), .int .u64 (ww.xp % 18446744073709551616), .int .i64 (ww.xq / 18446744073709551616), .int .u64 (ww.xq % 18446744073709551616), Cell.nils]] }), (8, { T := 25, sz := 2, own := true, pl := true, els := [[.int .i64 0, .int .u64 h]] }), (27000, { T := 28, sz := 4, own := true, pl := true, els := List.map Mo.row ps }), (11, { T := 62, sz := 5, own := true, pl := true, els := [[.int .i64 (A.1 / 18446744073709551616), .int .u64 (A.1 % 18446744073709551616), .int .i64 (A.2 / 18446744073709551616), .int .u64 (A.2 % 18446744073709551616), .int .i64 0]] }), (12, { T := 62, sz := 5, own := true, pl := true, els := [[.int .i64 (B.1 / 18446744073709551616), .int .u64 (B.1 % 18446744073709551616), .int .i64 (B.2 / 18446744073709551616), .int .u64 (B.2 % 18446744073709551616), .int .i64 0]] }), (48000, { T := 65, sz := 20, own := true, pl := true, els := L.map Bd.row }), (13, { T := 46, sz := 24, own := true, pl := false, els := [[.int .i64 ww.tk, .int .i64 (ww.h / 18446744073709551616), .int .u64 (ww.h % 18446744073709551616), .int .i64 (ww.g / 18446744073709551616), .int .u64 (ww.g % 18446744073709551616), .int .i64 (ww.eps / 18446744073709551616), .int .u64 (ww.eps % 18446744073709551616), .int .i64 (ww.th / 18446744073709551616), .int .u64 (ww.th % 18446744073709551616), .int .i64 (ww.bo / 18446744073709551616), .int .u64 (ww.bo % 18446744073709551616), .int .i64 ww.gr, .int .i64 ww.st, Cell.slc (Key.l 48000) 20 0 N, Cell.nils, Cell.nils, Cell.slc (Key.l 21001) 1 0 N, .int .i64 (ww.xm / 18446744073709551616), .int .u64 (ww.xm % 18446744073709551616), .int .i64 (ww.xp / 18446744073709551616), .int .u64 (ww.xp % 18446744073709551616), .int .i64 (ww.xq / 18446744073709551616), .int .u64 (ww.xq % 18446744073709551616), Cell.nils]] })],
    out := [some { T := 5, sz := 1, own := false, pl := true, els := List.map (fun n => [Cell.int IntKind.u8 n]) ns }], cr := [13, 48000, 12, 11, 27000, 8, 7, 21000, 21001] }
theorem kp_r (D : Nat) (ww : Wn) (ns : List Int) (how h : Int) (bs : List Bd) (ps : List Mo) (L : List Bd) (A B A' B' : Mo) (k : Nat) (b : Bd) (p : Mo) (hb : bs[k]? = some b) (hL : L[k]? = some b) (hp : ps[k]? = some p) (hlen : L.length = bs.length) (hps : ps.length = bs.length) (hm : bs.length ≤ 1000)
    (ha : evFun T (D+12) 31 [.agg [.int .i64 (A.1 / 18446744073709551616), .int .u64 (A.1 % 18446744073709551616), .int .i64 (A.2 / 18446744073709551616), .int .u64 (A.2 % 18446744073709551616)], .agg [.int .i64 (b.p / 18446744073709551616), .int .u64 (b.p % 18446744073709551616), .int .i64 (b.q / 18446744073709551616), .int .u64 (b.q % 18446744073709551616)]] [] = some (.agg [.int .i64 (A'.1 / 18446744073709551616), .int .u64 (A'.1 % 18446744073709551616), .int .i64 (A'.2 / 18446744073709551616), .int .u64 (A'.2 % 18446744073709551616), .int .i64 0], [], []))
    (hs : evFun T (D+12) 31 [.agg [.int .i64 (B.1 / 18446744073709551616), .int .u64 (B.1 % 18446744073709551616), .int .i64 (B.2 / 18446744073709551616), .int .u64 (B.2 % 18446744073709551616)], .agg [.int .i64 (p.1 / 18446744073709551616), .int .u64 (p.1 % 18446744073709551616), .int .i64 (p.2 / 18446744073709551616), .int .u64 (p.2 % 18446744073709551616)]] [] = some (.agg [.int .i64 (B'.1 / 18446744073709551616), .int .u64 (B'.1 % 18446744073709551616), .int .i64 (B'.2 / 18446744073709551616), .int .u64 (B'.2 % 18446744073709551616), .int .i64 0], [], [])) :
    ∀ K, nextK K ir8_t0 ir8_x0 (evCode (evFun T (D+12)) ir8_l0 (qS ww ns how h bs ps bs.length L A B k)) = K (qS ww ns how h bs ps bs.length (L.set k (withMo b p)) A' B' ((k + 1 : Nat) : Int)) := by
  intro K
  have hl := (List.getElem?_eq_some_iff.1 hb).1
  have hl' : (k : Int) < (bs.length : Int) := by omega
  have e1 : ((k : Int) + 1 + 9223372036854775808) % 18446744073709551616 - 9223372036854775808 = (k : Int) + 1 := by omega
  have hlL : k < L.length := by omega
  have hlp : k < ps.length := by omega
  obtain ⟨call, hcall⟩ : ∃ call, call = evFun T (D + 12) := ⟨_, rfl⟩
  rw [← hcall] at ha hs ⊢
  clear hcall hm
  simp (maxSteps := 2000000) [qS, ir8_l0, ir8_t0, ir8_x0, Bd.row, Mo.row, withMo, hl, hl', hb, hL, hp, hlL, hlp, ha, hs, e1, List.map_set, -getElem?_pos, List.getElem?_cons_zero, List.getElem?_cons_succ]
def qX (n : Nat) (j : Int) (S : St) : St := (((S.put (some 48) (.c (.int .i64 j))).put (some 49) (.c (.slc (.l 27000) 4 0 n))).put (some 50) (.c (.int .i64 n))).put (some 51) (.c (.bool false))
theorem kp_x (call : CallF) (ww : Wn) (ns : List Int) (how h : Int) (bs : List Bd) (ps : List Mo) (N : Nat) (L : List Bd) (A B : Mo) :
    ∀ K, nextK K ir8_t0 ir8_x0 (evCode call ir8_l0 (qS ww ns how h bs ps N L A B N)) = some (.exit 0, qX N N (qS ww ns how h bs ps N L A B N)) := by
  intro K
  simp [qS, qX, ir8_l0, ir8_t0, ir8_x0]
end Go.Ab

namespace Go.Ab
attribute [local simp] runFn args0 e_skip e_reg regC_some e_seq seqC_n seqC_e seqC_r e_cond condC_t condC_f e_block e_loop e_exit e_ret nextC_n nextC_e nextC_r nextK_n nextK_e nextK_r evReg evOps evOp wants fp St.ev St.get St.set St.sets St.put St.apply St.pre preK inB lk up del hits V.cells V.cellsG allPlain Cell.plain pure1 keysOf okUn noK Ev.apart meets mkV splice fillC binC unC mmC eqCs eqC resVs resV one export1 V.keys V.keys1 outKeys valsKeys cellsKeys Cell.keys Blk.keys elsKeys fpCall fpCallG noTup reach getAll outW newW names srcs capsOf onesOf slB rowsOf V.ren V.ren1 Cell.ren Loc.ren locsRen Blk.ren inR outR place nm St.sweep swept St.kill killR lmap delAll St.trim reachL expR ownGet b2i_le wrap_u64 wrap_i64 bits_u64 bits_i64 or_u64 and_u64 Int.fdiv_eq_ediv_of_nonneg word mmC hits
def qT (ww : Wn) (ns : List Int) (how h : Int) (bs : List Bd) (ps qs : List Mo) (N : Nat) (L : List Bd) (A : Mo) (k : Int) : St :=
  { env := [(0, .c (.slc (Key.o 0) 1 0 ns.length)), (1, .c (.int IntKind.u8 how)), (2, .c (.int IntKind.u64 h)), (6, .c (.bool false)), (18, .c (.slc (Key.o 0) 1 0 ns.length)), (19, .c (.int IntKind.u8 how)), (20, .agg [.int .i64 ww.tk, .int .i64 (ww.h / 18446744073709551616), .int .u64 (ww.h % 18446744073709551616), .int .i64 (ww.g / 18446744073709551616), .int .u64 (ww.g % 18446744073709551616), .int .i64 (ww.eps / 18446744073709551616), .int .u64 (ww.eps % 18446744073709551616), .int .i64 (ww.th / 18446744073709551616), .int .u64 (ww.th % 18446744073709551616), .int .i64 (ww.bo / 18446744073709551616), .int .u64 (ww.bo % 18446744073709551616), .int .i64 ww.gr, .int .i64 ww.st, Cell.slc (Key.l 21000) 20 0 N, Cell.nils, Cell.nils, Cell.slc (Key.l 21001) 1 0 N, .int .i64 (ww.xm / 18446744073709551616), .int .u64 (ww.xm % 18446744073709551616), .int .i64 (ww.xp / 18446744073709551616), .int .u64 (ww.xp % 18446744073709551616), .int .i64 (ww.xq / 18446744073709551616), .int .u64 (ww.xq % 18446744073709551616), Cell.nils]), (7, .c (.ptr { k := Key.l 7, i := 0, o := 0 })), (21, .c (.int IntKind.u64 h)), (22, .agg [.int .i64 0, .int .u64 h]), (8, .c (.ptr { k := Key.l 8, i := 0, o := 0 })), (24, .agg [.int .i64 ww.tk, .int .i64 (ww.h / 18446744073709551616), .int .u64 (ww.h % 18446744073709551616), .int .i64 (ww.g / 18446744073709551616), .int .u64 (ww.g % 18446744073709551616), .int .i64 (ww.eps / 18446744073709551616), .int .u64 (ww.eps % 18446744073709551616), .int .i64 (ww.th / 18446744073709551616), .int .u64 (ww.th % 18446744073709551616), .int .i64 (ww.bo / 18446744073709551616), .int .u64 (ww.bo % 18446744073709551616), .int .i64 ww.gr, .int .i64 ww.st, Cell.slc (Key.l 21000) 20 0 N, Cell.nils, Cell.nils, Cell.slc (Key.l 21001) 1 0 N, .int .i64 (ww.xm / 18446744073709551616), .int .u64 (ww.xm % 18446744073709551616), .int .i64 (ww.xp / 18446744073709551616), .int .u64 (ww.xp % 18446744073709551616), .int .i64 (ww.xq / 18446744073709551616), .int .u64 (ww.xq % 18446744073709551616), Cell.nils]), (25, .agg [.int .i64 0, .int .u64 h]), (26, .tup [.c (.slc (Key.l 27000) 4 0 N), .c (.int IntKind.i64 0)]), (23, .tup [.c (.slc (Key.l 27000) 4 0 N), .c (.int IntKind.i64 0)]), (27, .c (.slc (Key.l 27000) 4 0 N)), (28, .c (.int IntKind.i64 0)), (9, .c (.slc (Key.l 27000) 4 0 N)), (10, .c (.int IntKind.i64 0)), (29, .c (.int IntKind.i64 0)), (30, .c (.int IntKind.i64 0)), (31, .c (.bool false)), (38, .c (.slc (Key.l 27000) 4 0 N)), (39, .c (.int IntKind.i64 (N : Int))), (40, .c (.ptr { k := Key.l 7, i := 0, o := 13 })), (41, .c (.slc (Key.l 21000) 20 0 N)), (42, .c (.int IntKind.i64 (N : Int))), (43, .c (.bool false)), (11, .c (.ptr { k := Key.l 11, i := 0, o := 0 })), (12, .c (.ptr { k := Key.l 12, i := 0, o := 0 })), (44, .agg [.int .i64 ww.tk, .int .i64 (ww.h / 18446744073709551616), .int .u64 (ww.h % 18446744073709551616), .int .i64 (ww.g / 18446744073709551616), .int .u64 (ww.g % 18446744073709551616), .int .i64 (ww.eps / 18446744073709551616), .int .u64 (ww.eps % 18446744073709551616), .int .i64 (ww.th / 18446744073709551616), .int .u64 (ww.th % 18446744073709551616), .int .i64 (ww.bo / 18446744073709551616), .int .u64 (ww.bo % 18446744073709551616), .int .i64 ww.gr, .int .i64 ww.st, Cell.slc (Key.l 21000) 20 0 N, Cell.nils, Cell.nils, Cell.slc (Key.l 21001) 1 0 N, .int .i64 (ww.xm / 18446744073709551616), .int .u64 (ww.xm % 18446744073709551616), .int .i64 (ww.xp / 18446744073709551616), .int .u64 (ww.xp % 18446744073709551616), .int .i64 (ww.xq / 18446744073709551616), .int .u64 (ww.xq % 18446744073709551616), Cell.nils]), (45, .c (.ptr { k := Key.l 7, i := 0, o := 13 })), (46, .c (.slc (Key.l 21000) 20 0 N)), (47, .agg [.int .i64 ww.tk, .int .i64 (ww.h / 18446744073709551616), .int .u64 (ww.h % 18446744073709551616), .int .i64 (ww.g / 18446744073709551616), .int .u64 (ww.g % 18446744073709551616), .int .i64 (ww.eps / 18446744073709551616), .int .u64 (ww.eps % 18446744073709551616), .int .i64 (ww.th / 18446744073709551616), .int .u64 (ww.th % 18446744073709551616), .int .i64 (ww.bo / 18446744073709551616), .int .u64 (ww.bo % 18446744073709551616), .int .i64 ww.gr, .int .i64 ww.st, Cell.slc (Key.l 48000) 20 0 N, Cell.nils, Cell.nils, Cell.slc (Key.l 21001) 1 0 N, .int .i64 (ww.xm / 18446744073709551616), .int .u64 (ww.xm % 18446744073709551616), .int .i64 (ww.xp / 18446744073709551616), .int .u64 (ww.xp % 18446744073709551616), .int .i64 (ww.xq / 18446744073709551616), .int .u64 (ww.xq % 18446744073709551616), Cell.nils]), (13, .c (.ptr { k := Key.l 13, i := 0, o := 0 })), (14, .c (.int IntKind.i64 (N : Int))), (48, .c (.int IntKind.i64 (N : Int))), (49, .c (.slc (Key.l 27000) 4 0 N)), (50, .c (.int IntKind.i64 (N : Int))), (51, .c (.bool false)), (80, .agg [.int .i64 ww.tk, .int .i64 (ww.h / 18446744073709551616), .int .u64 (ww.h % 18446744073709551616), .int .i64 (ww.g / 18446744073709551616), .int .u64 (ww.g % 18446744073709551616), .int .i64 (ww.eps / 18446744073709551616), .int .u64 (ww.eps % 18446744073709551616), .int .i64 (ww.th / 18446744073709551616), .int .u64 (ww.th % 18446744073709551616), .int .i64 (ww.bo / 18446744073709551616), .int .u64 (ww.bo % 18446744073709551616), .int .i64 ww.gr, .int .i64 ww.st, Cell.slc (Key.l 48000) 20 0 N, Cell.nils, Cell.nils, Cell.slc (Key.l 21001) 1 0 N, .int .i64 (ww.xm / 18446744073709551616), .int .u64 (ww.xm % 18446744073709551616), .int .i64 (ww.xp / 18446744073709551616), .int .u64 (ww.xp % 18446744073709551616), .int .i64 (ww.xq / 18446744073709551616), .int .u64 (ww.xq % 18446744073709551616), Cell.nils]), (81, .agg [.int .i64 0, .int .u64 h]), (82, .agg [.int .i64 (-h / 18446744073709551616), .int .u64 (-h % 18446744073709551616)]), (83, .tup [.c (.slc (Key.l 84000) 4 0 N), .c (.int IntKind.i64 0)]), (79, .tup [.c (.slc (Key.l 84000) 4 0 N), .c (.int IntKind.i64 0)]), (84, .c (.slc (Key.l 84000) 4 0 N)), (85, .c (.int IntKind.i64 0)), (15, .c (.slc (Key.l 84000) 4 0 N)), (16, .c (.int IntKind.i64 0)), (86, .c (.ptr { k := Key.l 11, i := 0, o := 0 })), (87, .agg [.int .i64 (A.fst / 18446744073709551616), .int .u64 (A.fst % 18446744073709551616), .int .i64 (A.snd / 18446744073709551616), .int .u64 (A.snd % 18446744073709551616)]), (88, .c (.ptr { k := Key.l 12, i := 0, o := 0 })), (89, .agg [.int .i64 (A.fst / 18446744073709551616), .int .u64 (A.fst % 18446744073709551616), .int .i64 (A.snd / 18446744073709551616), .int .u64 (A.snd % 18446744073709551616)]), (90, .c (.bool false)), (91, .c (.bool false)), (92, .c (.int IntKind.i64 0)), (93, .c (.int IntKind.i64 0)), (94, .c (.bool false)), (95, .c (.bool false)), (96, .c (.bool false)), (97, .c (.slc (Key.l 84000) 4 0 N)), (98, .c (.int IntKind.i64 (N : Int))), (99, .c (.slc (Key.l 27000) 4 0 N)), (100, .c (.int IntKind.i64 (N : Int))), (101, .c (.bool false)), (102, .c (.bool false)), (17, .c (.int .i64 k))],
    loc := [(21000, { T := 65, sz := 20, own := true, pl := true, els := List.map Bd.row bs }), (21001, { T := 3, sz := 1, own := true, pl := true, els := List.replicate N [.int .i64 (-1)] }), (7, { T := 46, sz := 24, own := true, pl := false, els := [[.int .i64 ww.tk, .int .i64 (ww.h / 18446744073709551616), .int .u64 (ww.h % 18446744073709551616), .int .i64 (ww.g / 18446744073709551616), .int .u64 (ww.g % 18446744073709551616), .int .i64 (ww.eps / 18446744073709551616), .int .u64 (ww.eps % 18446744073709551616), .int .i64 (ww.th / 18446744073709551616), .int .u64 (ww.th % 18446744073709551616), .int .i64 (ww.bo / 18446744073709551616), .int .u64 (ww.bo % 18446744073709551616), .int .i64 ww.gr, .int .i64 ww.st, Cell.slc (Key.l 21000) 20 0 N, Cell.nils, Cell.nils, Cell.slc (Key.l 21001) 1 0 N, .int .i64 (ww.xm / 18446744073709551616), .int .u64 (ww.xm % 18446744073709551616), .int .i64 (ww.xp / 18446744073709551616), .int .u64 (ww.xp % 18446744073709551616), .int .i64 (ww.xq / 18446744073709551616), .int .u64 (ww.xq % 18446744073709551616), Cell.nils]] }), (8, { T := 25, sz := 2, own := true, pl := true, els := [[.int .i64 0, .int .u64 h]] }), (27000, { T := 28, sz := 4, own := true, pl := true, els := List.map Mo.row ps }), (11, { T := 62, sz := 5, own := true, pl := true, els := [[.int .i64 (A.fst / 18446744073709551616), .int .u64 (A.fst % 18446744073709551616), .int .i64 (A.snd / 18446744073709551616), .int .u64 (A.snd % 18446744073709551616), .int .i64 0]] }), (12, { T := 62, sz := 5, own := true, pl := true, els := [[.int .i64 (A.fst / 18446744073709551616), .int .u64 (A.fst % 18446744073709551616), .int .i64 (A.snd / 18446744073709551616), .int .u64 (A.snd % 18446744073709551616), .int .i64 0]] }), (48000, { T := 65, sz := 20, own := true, pl := true, els := List.map Bd.row L }), (13, { T := 46, sz := 24, own := true, pl := false, els := [[.int .i64 ww.tk, .int .i64 (ww.h / 18446744073709551616), .int .u64 (ww.h % 18446744073709551616), .int .i64 (ww.g / 18446744073709551616), .int .u64 (ww.g % 18446744073709551616), .int .i64 (ww.eps / 18446744073709551616), .int .u64 (ww.eps % 18446744073709551616), .int .i64 (ww.th / 18446744073709551616), .int .u64 (ww.th % 18446744073709551616), .int .i64 (ww.bo / 18446744073709551616), .int .u64 (ww.bo % 18446744073709551616), .int .i64 ww.gr, .int .i64 ww.st, Cell.slc (Key.l 48000) 20 0 N, Cell.nils, Cell.nils, Cell.slc (Key.l 21001) 1 0 N, .int .i64 (ww.xm / 18446744073709551616), .int .u64 (ww.xm % 18446744073709551616), .int .i64 (ww.xp / 18446744073709551616), .int .u64 (ww.xp % 18446744073709551616), .int .i64 (ww.xq / 18446744073709551616), .int .u64 (ww.xq % 18446744073709551616), Cell.nils]] }), (84000, { T := 28, sz := 4, own := true, pl := true, els := List.map Mo.row qs })],
    out := [some { T := 5, sz := 1, own := false, pl := true, els := List.map (fun n => [Cell.int IntKind.u8 n]) ns }], cr := [84000, 13, 48000, 12, 11, 27000, 8, 7, 21000, 21001] }
theorem kq_r (call : CallF) (ww : Wn) (ns : List Int) (how h : Int) (bs : List Bd) (ps qs : List Mo) (L : List Bd) (A : Mo) (k : Nat) (b : Bd) (hb : bs[k]? = some b) (hq : qs[k]? = some (b.p, b.q)) (hqs : qs.length = bs.length) (hm : bs.length ≤ 1000) :
    ∀ K, nextK K ir8_t1 ir8_x1 (evCode call ir8_l1 (qT ww ns how h bs ps qs bs.length L A k)) = K (qT ww ns how h bs ps qs bs.length L A ((k + 1 : Nat) : Int)) := by
  intro K
  have hl := (List.getElem?_eq_some_iff.1 hb).1
  have hl' : (k : Int) < (bs.length : Int) := by omega
  have e1 : ((k : Int) + 1 + 9223372036854775808) % 18446744073709551616 - 9223372036854775808 = (k : Int) + 1 := by omega
  have hlp : k < qs.length := by omega
  clear hm
  simp (maxSteps := 2000000) [qT, ir8_l1, ir8_t1, ir8_x1, Bd.row, Mo.row, hl, hl', hb, hq, hlp, e1, -getElem?_pos, List.getElem?_cons_zero, List.getElem?_cons_succ]
def qY (n : Nat) (S : St) : St := (((S.put (some 103) (.c (.int .i64 n))).put (some 104) (.c (.slc (.l 84000) 4 0 n))).put (some 105) (.c (.int .i64 n))).put (some 106) (.c (.bool false))
theorem kq_x (call : CallF) (ww : Wn) (ns : List Int) (how h : Int) (bs : List Bd) (ps qs : List Mo) (N : Nat) (L : List Bd) (A : Mo) :
    ∀ K, nextK K ir8_t1 ir8_x1 (evCode call ir8_l1 (qT ww ns how h bs ps qs N L A N)) = some (.exit 2, qY N (qT ww ns how h bs ps qs N L A N)) := by
  intro K
  simp [qT, qY, ir8_l1, ir8_t1, ir8_x1]
set_option maxRecDepth 20000 in
theorem keeps_core (D : Nat) (ns : List Int) (how h : Int) (ww : Wn) (bs L : List Bd) (ps qs : List Mo) (A : Mo) (N : Nat)
   (n1 : ∀ n : Int, evFun T (D+12) 19 [.c (.int .i64 n)] [] = some (.c (.int .i64 n), [], []))
   (aw : evFun T (D+12) 24 [] [] = some (.c (.bool true), [], []))
   (hw : evFun T (D+12) 30 [.c (.slc (.o 0) 1 0 ns.length), .c (.int .i64 10), .c (.int .u8 how)] [bytesB false ns] =
      some (.agg (ww.cells (.slc (.l 0) 20 0 N) .nils .nils (.slc (.l 1) 1 0 N) .nils), [some (bytesB false ns)], oA bs (List.replicate N [.int .i64 (-1)])))
   (hk : evFun T (D+12) 26 [wA ww N N, .agg [.int .i64 0, .int .u64 h]] (oA bs (List.replicate N [.int .i64 (-1)])) =
      some (.tup [.c (.slc (.l 0) 4 0 N), .c (.int .i64 0)], (oA bs (List.replicate N [.int .i64 (-1)])).map some, [⟨28, 4, true, true, ps.map Mo.row⟩]))
   (hng : evFun T (D+12) 32 [.agg [.int .i64 0, .int .u64 h]] [] = some (.agg [.int .i64 ((-h) / 18446744073709551616), .int .u64 ((-h) % 18446744073709551616)], [], []))
   (hk2 : evFun T (D+12) 26 [wA ww N N, .agg [.int .i64 ((-h) / 18446744073709551616), .int .u64 ((-h) % 18446744073709551616)]] (oA L (List.replicate N [.int .i64 (-1)])) =
      some (.tup [.c (.slc (.l 0) 4 0 N), .c (.int .i64 0)], (oA L (List.replicate N [.int .i64 (-1)])).map some, [⟨28, 4, true, true, qs.map Mo.row⟩]))
   (hl : loopC (evFun T (D+12)) ir8_l0 ir8_t0 ir8_x0 18446744073709551616 (qS ww ns how h bs ps N bs (0, 0) (0, 0) 0) = some (.exit 0, qX N N (qS ww ns how h bs ps N L A A N)))
   (ho : loopC (evFun T (D+12)) ir8_l1 ir8_t1 ir8_x1 18446744073709551616 (qT ww ns how h bs ps qs N L A 0) = some (.exit 2, qY N (qT ww ns how h bs ps qs N L A N)))
   (hwi : evFun T (D+12) 25 [wA ww N N, .c (.slc (.o 0) 20 0 N)] (oA bs (List.replicate N [.int .i64 (-1)])) =
      some (.agg (ww.cells (.slc (.l 0) 20 0 N) .nils .nils (.slc (.o 1) 1 0 N) .nils), (oA bs (List.replicate N [.int .i64 (-1)])).map some, [⟨65, 20, true, true, bs.map Bd.row⟩])) :
   evFun T (D+13) 8 [.c (.slc (.o 0) 1 0 ns.length), .c (.int .u8 how), .c (.int .u64 h)] [bytesB false ns] = some (.c (.bool true), [some (bytesB false ns)], []) := by
  unfold wA oA at *
  simp only [bytesB, Wn.cells] at hw hk hwi hk2
  simp only [qS, qX, St.put, up] at hl
  simp only [qT, qY, St.put, up] at ho
  simp at hw hk hwi hk2 hl ho
  unfold bytesB
  rw [ev_fn T8]; (try simp only [Nat.add_assoc, Nat.reduceAdd] at n1 aw hw hk hwi hng hk2 hl ho); obtain ⟨call, hcall⟩ : ∃ call, call = evFun T (D + 12) := ⟨_, rfl⟩; rw [← hcall] at n1 aw hw hk hwi hng hk2 hl ho ⊢; clear hcall; simp (maxSteps := 2000000) [ir8, n1, aw, hw, hk, hwi, hng, hk2, hl, ho, Wn.cells]
end Go.Ab

namespace Go.Ab
attribute [local simp] runFn args0 e_skip e_reg regC_some e_seq seqC_n seqC_e seqC_r e_cond condC_t condC_f e_block e_loop e_exit e_ret nextC_n nextC_e nextC_r nextK_n nextK_e nextK_r evReg evOps evOp wants fp St.ev St.get St.set St.sets St.put St.apply St.pre preK inB lk up del hits V.cells V.cellsG allPlain Cell.plain pure1 keysOf okUn noK Ev.apart meets mkV splice fillC binC unC mmC eqCs eqC resVs resV one export1 V.keys V.keys1 outKeys valsKeys cellsKeys Cell.keys Blk.keys elsKeys fpCall fpCallG noTup reach getAll outW newW names srcs capsOf onesOf slB rowsOf V.ren V.ren1 Cell.ren Loc.ren locsRen Blk.ren inR outR place nm St.sweep swept St.kill killR lmap delAll St.trim reachL expR ownGet b2i_le wrap_u64 wrap_i64 bits_u64 bits_i64 or_u64 and_u64 Int.fdiv_eq_ediv_of_nonneg word mmC hits
theorem vadd_small (D : Nat) {A b : Mo} {m n : Int} (hA : A.small m) (hb : b.small n) (hm : m + n < 170141183460469231731687303715884105728) (h0 : 0 ≤ m) (h1 : 0 ≤ n) :
    evFun T (D+12) 31 [.agg [.int .i64 (A.1 / 18446744073709551616), .int .u64 (A.1 % 18446744073709551616), .int .i64 (A.2 / 18446744073709551616), .int .u64 (A.2 % 18446744073709551616)], .agg [.int .i64 (b.1 / 18446744073709551616), .int .u64 (b.1 % 18446744073709551616), .int .i64 (b.2 / 18446744073709551616), .int .u64 (b.2 % 18446744073709551616)]] [] =
      some (.agg [.int .i64 ((moAdd A b).1 / 18446744073709551616), .int .u64 ((moAdd A b).1 % 18446744073709551616), .int .i64 ((moAdd A b).2 / 18446744073709551616), .int .u64 ((moAdd A b).2 % 18446744073709551616), .int .i64 0], [], []) := by
  have a := R_vadd (D+6) (okM_may (may_abs hA.1 (by omega))) (okM_may (may_abs hA.2 (by omega))) (okM_may (may_abs hb.1 (by omega))) (okM_may (may_abs hb.2 (by omega)))
  simp only [fv_dm] at a
  have f1 : fitE (A.1 + b.1) = 0 := fit_abs (absI_add hA.1 hb.1) hm
  have f2 : fitE (A.2 + b.2) = 0 := fit_abs (absI_add hA.2 hb.2) hm
  rw [both1_fit f1 f2, both1_fit f2 f1, bothE_zero.2 ⟨f1, f2⟩] at a
  exact a
theorem kp_loop (D : Nat) (ww : Wn) (ns : List Int) (how h : Int) (bs : List Bd) (ps : List Mo) (hps : ps.length = bs.length) (hm : bs.length ≤ 10) (s1 : ∀ p ∈ moms bs, Mo.small p 7344298142331371745351990464) (s2 : ∀ p ∈ ps, Mo.small p 7344298142331371745351990464) :
    loopC (evFun T (D+12)) ir8_l0 ir8_t0 ir8_x0 18446744073709551616 (qS ww ns how h bs ps bs.length bs (0, 0) (0, 0) 0) =
      some (.exit 0, qX bs.length bs.length (qS ww ns how h bs ps bs.length (withMos bs ps) (moSum (moms bs)) (moSum ps) bs.length)) := by
  have hml := moms_len bs
  have key := loop_k (call := evFun T (D+12)) (b := ir8_l0) (tr := ir8_t0) (bx := ir8_x0)
    (fun k => qS ww ns how h bs ps bs.length (lK bs ps k) (moSum ((moms bs).take k)) (moSum (ps.take k)) k) bs.length
    (fun k hk K => by
      have hpk : k < ps.length := by omega
      have e1 : (moms bs)[k]'(by omega) = (bs[k].p, bs[k].q) := by simp [moms]
      have ha := vadd_small D (take_small (k := k) s1 (by omega)) (s1 _ (List.getElem_mem (by omega : k < (moms bs).length))) (by omega) (by omega) (by omega)
      have hs := vadd_small D (take_small (k := k) s2 (by omega)) (s2 _ (List.getElem_mem hpk)) (by omega) (by omega) (by omega)
      rw [e1] at ha
      have r := kp_r D ww ns how h bs ps (lK bs ps k) _ _ _ _ k bs[k] ps[k] (by simp [hk]) (lK_at hk) (by simp [hpk]) (lK_len _ _ _) hps (by omega) ha hs K
      rw [moSum_take (by omega : k < (moms bs).length), moSum_take hpk, ← lK_set hk hps, getD_at hpk, e1]
      exact r)
    (fun K => kp_x _ _ _ _ _ _ _ _ _ _ _ K) 18446744073709551616 (by omega)
  simp only [lK_zero] at key
  rw [lK_full hps] at key
  rw [List.take_of_length_le (by omega : (moms bs).length ≤ bs.length), List.take_of_length_le (by omega : ps.length ≤ bs.length)] at key
  exact key
theorem kq_loop (call : CallF) (ww : Wn) (ns : List Int) (how h : Int) (bs : List Bd) (ps : List Mo) (L : List Bd) (A : Mo) (hm : bs.length ≤ 10) :
    loopC call ir8_l1 ir8_t1 ir8_x1 18446744073709551616 (qT ww ns how h bs ps (moms bs) bs.length L A 0) =
      some (.exit 2, qY bs.length (qT ww ns how h bs ps (moms bs) bs.length L A bs.length)) :=
  loop_k (call := call) (b := ir8_l1) (tr := ir8_t1) (bx := ir8_x1)
    (fun k => qT ww ns how h bs ps (moms bs) bs.length L A k) bs.length
    (fun k hk K => kq_r call ww ns how h bs ps (moms bs) L A k bs[k] (by simp [hk]) (by simp [moms, hk]) (moms_len bs) (by omega) K)
    (fun K => kq_x _ _ _ _ _ _ _ _ _ _ _ K) 18446744073709551616 (by omega)
theorem with_ok {bs : List Bd} {ps : List Mo} (hb : ∀ b ∈ bs, b.ok) (hp : ∀ p ∈ ps, p.ok) : ∀ b ∈ withMos bs ps, b.ok := fun b h => by
  unfold withMos at h
  rw [List.mem_iff_getElem] at h
  obtain ⟨t, ht, rfl⟩ := h
  have hl : (List.zipWith withMo bs ps).length = min bs.length ps.length := List.length_zipWith
  have h1 : t < bs.length := by omega
  have h2 : t < ps.length := by omega
  have q1 := hb (bs[t]) (List.getElem_mem h1)
  have q2 := hp (ps[t]) (List.getElem_mem h2)
  rw [List.getElem_zipWith]
  exact ⟨q1.1, q1.2.1, q1.2.2.1, q2.1, q2.2⟩
theorem bodiesS_small {ns : List Int} (hns : ∀ n ∈ ns, byteI n) (most : Nat) : (∀ b ∈ bodiesS ns most, b.small) ∧ ∀ p ∈ moms (bodiesS ns most), Mo.small p 73786976294838206464 := by
  refine ⟨fun b hb => ?_, fun p hp => ?_⟩
  · simp only [bodiesS, List.mem_map] at hb
    obtain ⟨k, _, rfl⟩ := hb
    exact (bodyAt_small hns k).1
  · simp only [moms, bodiesS, List.mem_map] at hp
    obtain ⟨b, ⟨k, _, rfl⟩, rfl⟩ := hp
    exact (bodyAt_small hns k).2
set_option maxRecDepth 20000 in
theorem keeps0_ev (D : Nat) (ns : List Int) (how h : Int) (kw : 0 ≤ how ∧ how ≤ 255) (kh : 0 ≤ h ∧ h ≤ 18446744073709551615) (h0 : (bodiesS ns 10).length = 0) :
    evFun T (D+13) 8 [.c (.slc (.o 0) 1 0 ns.length), .c (.int .u8 how), .c (.int .u64 h)] [bytesB false ns] = some (.c (.bool true), [some (bytesB false ns)], []) := by
  have n1 := fun n => E_num (D+11) n
  have aw := ev_awake11 D
  have hw := E_world0 (D+8) false ns 10 how kw (by omega) h0
  have hk := E_kick0 (D+1) (worldS how) h
  have hwi := E_with0 (D+11) (worldS how)
  have hk2 := E_kick00 (D+1) (worldS how) (-h)
  have hng := R_neg (D+9) (h := 0) (l := h) (by unfold okM fv; omega)
  rw [show fv 0 h = h by unfold fv; omega] at hng
  rw [(u64_fix kh).1, (u64_fix kh).2] at hk
  generalize worldS how = ww at *
  simp only [bytesB, Wn.cells] at hw hk hwi hk2
  simp at hw hk hwi hk2 hng
  clear h0
  unfold bytesB
  rw [ev_fn T8]; (try simp only [Nat.add_assoc, Nat.reduceAdd] at n1 aw hw hk hwi hk2 hng); obtain ⟨call, hcall⟩ : ∃ call, call = evFun T (D + 12) := ⟨_, rfl⟩; rw [← hcall] at n1 aw hw hk hwi hk2 hng ⊢; clear hcall; simp (maxSteps := 2000000) [ir8, n1, aw, hw, hk, hwi, hk2, hng, Wn.cells, ir8_l0, ir8_t0, ir8_x0, ir8_l1, ir8_t1, ir8_x1, loopC_step]
theorem keeps_ev (D : Nat) (ns : List Int) (how h : Int) (hns : ∀ n ∈ ns, byteI n) (kw : 0 ≤ how ∧ how ≤ 255) (kh : 0 ≤ h ∧ h ≤ 18446744073709551615) :
    evFun T (D+13) 8 [.c (.slc (.o 0) 1 0 ns.length), .c (.int .u8 how), .c (.int .u64 h)] [bytesB false ns] = some (.c (.bool true), [some (bytesB false ns)], []) := by
  by_cases h0 : (bodiesS ns 10).length = 0
  · exact keeps0_ev D ns how h kw kh h0
  have hpos : 0 < (bodiesS ns 10).length := by omega
  have hlen : (bodiesS ns 10).length ≤ 10 := by rw [bodiesS_len]; omega
  have hne : bodiesS ns 10 ≠ [] := fun q => h0 (by rw [q]; rfl)
  have hok := bodiesS_ok hns 10
  obtain ⟨sb, sm⟩ := bodiesS_small hns 10
  obtain ⟨sg, se⟩ := worldS_small how
  have sh : absI h ≤ 18446744073709551616 := absI_le (by omega)
  have mg := (worldS_g how).1
  have me := (worldS_g how).2
  have kk : mayI h := by unfold mayI; omega
  have kk' : mayI (-h) := by unfold mayI; omega
  have hw := E_world (D+8) false ns 10 how kw (by omega) (by omega) hns hpos
  unfold wldB at hw
  obtain ⟨ps, p1, p2, p3, p4, p5⟩ := keeps sg se sh sb sm hlen
  have pok : ∀ p ∈ ps, p.ok := fun p q => ⟨may_abs (p4 p q).1 (by omega), may_abs (p4 p q).2 (by omega)⟩
  have hk := E_kickA_ok (D+1) (worldS how) (bodiesS ns 10) (List.replicate (bodiesS ns 10).length [.int .i64 (-1)]) (bodiesS ns 10).length h hne (by omega) hok mg me kk (by rw [p1])
  obtain ⟨_, _, hk⟩ := hk
  rw [p1] at hk
  have hwl := withMos_len p2
  have hne2 : withMos (bodiesS ns 10) ps ≠ [] := fun q => h0 (by rw [← hwl, q]; rfl)
  have hk2 := E_kickA_ok (D+1) (worldS how) (withMos (bodiesS ns 10) ps) (List.replicate (bodiesS ns 10).length [.int .i64 (-1)]) (bodiesS ns 10).length (-h) hne2 (by omega) (with_ok hok pok) mg me kk' (by rw [p5])
  obtain ⟨_, _, hk2⟩ := hk2
  rw [p5, hwl] at hk2
  have hwi := E_withA (D+11) (worldS how) (bodiesS ns 10) (List.replicate (bodiesS ns 10).length [.int .i64 (-1)]) (bodiesS ns 10).length (by omega) hne
  have hng := R_neg (D+9) (h := 0) (l := h) (by unfold okM fv; omega)
  rw [show fv 0 h = h by unfold fv; omega] at hng
  rw [(u64_fix kh).1, (u64_fix kh).2] at hk
  have hl := kp_loop D (worldS how) ns how h (bodiesS ns 10) ps p2 hlen (fun p q => small_up (sm p q) (by omega)) p4
  rw [p3] at hl
  have ho := kq_loop (evFun T (D+12)) (worldS how) ns how h (bodiesS ns 10) ps (withMos (bodiesS ns 10) ps) (moSum (moms (bodiesS ns 10))) hlen
  exact keeps_core D ns how h (worldS how) (bodiesS ns 10) (withMos (bodiesS ns 10) ps) ps (moms (bodiesS ns 10)) _ (bodiesS ns 10).length (fun n => E_num (D+11) n) (ev_awake11 D) hw hk hng hk2 hl ho hwi
end Go.Ab

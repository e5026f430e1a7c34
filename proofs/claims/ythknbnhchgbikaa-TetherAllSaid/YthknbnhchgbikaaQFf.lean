/- Words for this claim: an evaluator of the program's functions, and what they come to. -/
import Derived.Test.YthknbnhchgbikaaQFe
set_option linter.all false
namespace Go.Ab
attribute [local simp] runFn args0 e_skip e_reg regC_some e_seq seqC_n seqC_e seqC_r e_cond condC_t condC_f e_block e_loop e_exit e_ret nextC_n nextC_e nextC_r nextK_n nextK_e nextK_r evReg evOps evOp wants fp St.ev St.get St.set St.sets St.put St.apply St.pre preK inB lk up del hits V.cells V.cellsG allPlain Cell.plain pure1 keysOf okUn noK Ev.apart meets mkV splice fillC binC unC mmC eqCs eqC resVs resV one export1 V.keys V.keys1 outKeys valsKeys cellsKeys Cell.keys Blk.keys elsKeys fpCall fpCallG noTup reach getAll outW newW names srcs capsOf onesOf slB rowsOf V.ren V.ren1 Cell.ren Loc.ren locsRen Blk.ren inR outR place nm St.sweep swept St.kill killR lmap delAll St.trim reachL expR ownGet b2i_le wrap_u64 wrap_i64 bits_u64 bits_i64 or_u64 and_u64 Int.fdiv_eq_ediv_of_nonneg word mmC hits
theorem okM_neg {h l : Int} (k : okM h l) : okM ((-fv h l) / 18446744073709551616) ((-fv h l) % 18446744073709551616) := okM_of (by have := okM_fv k; omega)
theorem E_neg (D : Nat) {h l : Int} (k : okM h l) : evFun T (D+3) 175 [.agg [.int .i64 h, .int .u64 l]] [] = some (.agg [.int .i64 ((-fv h l) / 18446744073709551616), .int .u64 ((-fv h l) % 18446744073709551616)], [], []) := by
  have x := fv_of k.f D
  have b := okM_fv k
  have e := ev_fix D (absI (fv h l)) (!decide (fv h l < 0)) ⟨absI_nonneg _, absI_le (by omega)⟩
  have e2 : (if (!decide (fv h l < 0)) = true then -absI (fv h l) else if absI (fv h l) = 170141183460469231731687303715884105728 then -absI (fv h l) else absI (fv h l)) = -fv h l := by
    have h1 := absI_lt b
    rw [if_neg (show ¬ absI (fv h l) = 170141183460469231731687303715884105728 by omega)]
    unfold absI
    by_cases q : fv h l < 0 <;> simp [q]
  rw [e2] at e
  simp only [sizeV, fixV] at e
  generalize absI (fv h l) = A at *
  generalize decide (fv h l < 0) = s at *
  rw [ev_fn T175]; simp (maxSteps := 2000000) [ir175, x, e]
theorem E_sub (D : Nat) {h1 l1 h2 l2 : Int} (k1 : okM h1 l1) (k2 : okM h2 l2) : evFun T (D+5) 145 [.agg [.int .i64 h1, .int .u64 l1], .agg [.int .i64 h2, .int .u64 l2]] [] =
    some (.tup [.agg [.int .i64 (fitN (fv h1 l1 - fv h2 l2) / 18446744073709551616), .int .u64 (fitN (fv h1 l1 - fv h2 l2) % 18446744073709551616)], .c (.int .i64 (fitE (fv h1 l1 - fv h2 l2)))], [], []) := by
  have x := E_neg (D+1) k2
  have y := E_add D k1 (okM_neg k2)
  rw [fv_dm, ← Int.sub_eq_add_neg] at y
  generalize fv h1 l1 - fv h2 l2 = A at *
  generalize fv h2 l2 = B at *
  rw [ev_fn T145]; simp (maxSteps := 2000000) [ir145, x, y]
/-- The same to both numbers of a way, by a function that is known. -/
theorem E_each (D g : Nat) (x1 x2 y1 y2 z1 z2 w1 w2 X Y : Int)
    (hx : evFun T (D+5) g [.agg [.int .i64 x1, .int .u64 x2], .agg [.int .i64 z1, .int .u64 z2]] [] = some (.tup [.agg [.int .i64 (fitN X / 18446744073709551616), .int .u64 (fitN X % 18446744073709551616)], .c (.int .i64 (fitE X))], [], []))
    (hy : evFun T (D+5) g [.agg [.int .i64 y1, .int .u64 y2], .agg [.int .i64 w1, .int .u64 w2]] [] = some (.tup [.agg [.int .i64 (fitN Y / 18446744073709551616), .int .u64 (fitN Y % 18446744073709551616)], .c (.int .i64 (fitE Y))], [], [])) :
    evFun T (D+6) 125 [.agg [.int .i64 x1, .int .u64 x2, .int .i64 y1, .int .u64 y2], .agg [.int .i64 z1, .int .u64 z2, .int .i64 w1, .int .u64 w2], .c (.fn g [])] [] =
      some (.tup [.agg [.int .i64 (both1 X Y / 18446744073709551616), .int .u64 (both1 X Y % 18446744073709551616), .int .i64 (both1 Y X / 18446744073709551616), .int .u64 (both1 Y X % 18446744073709551616)], .c (.int .i64 (bothE X Y))], [], []) := by
  by_cases h1 : fitE X = 0
  · by_cases h2 : fitE Y = 0
    · have e1 : both1 X Y = X := by unfold both1; rw [if_pos ⟨h1, h2⟩]
      have e2 : both1 Y X = Y := by unfold both1; rw [if_pos ⟨h2, h1⟩]
      have e3 : bothE X Y = 0 := bothE_zero.2 ⟨h1, h2⟩
      rw [e1, e2, e3]
      rw [h1, fitN_of h1] at hx
      rw [h2, fitN_of h2] at hy
      rw [ev_fn T125]; simp (maxSteps := 2000000) [ir125, hx, hy]
    · have e1 : both1 X Y = 0 := by unfold both1; rw [if_neg (by simp [h2])]
      have e2 : both1 Y X = 0 := by unfold both1; rw [if_neg (by simp [h2])]
      have e3 : bothE X Y = fitE Y := by unfold bothE; rw [if_pos h1]
      have e4 : (fitE Y != 0) = true := by simpa using h2
      rw [e1, e2, e3]
      rw [h1] at hx
      rw [ev_fn T125]; simp (maxSteps := 2000000) [ir125, hx, hy, e4]
  · have e1 : both1 X Y = 0 := by unfold both1; rw [if_neg (by simp [h1])]
    have e2 : both1 Y X = 0 := by unfold both1; rw [if_neg (by simp [h1])]
    have e3 : bothE X Y = fitE X := by unfold bothE; rw [if_neg h1]
    have e4 : (fitE X != 0) = true := by simpa using h1
    rw [e1, e2, e3]
    rw [ev_fn T125]; simp (maxSteps := 2000000) [ir125, hx, e4]
theorem okM_both (x y : Int) : okM (both1 x y / 18446744073709551616) (both1 x y % 18446744073709551616) := okM_of (both1_may x y)
theorem E_vadd (D : Nat) {x1 x2 y1 y2 z1 z2 w1 w2 : Int} (k1 : okM x1 x2) (k2 : okM y1 y2) (k3 : okM z1 z2) (k4 : okM w1 w2) : evFun T (D+7) 127 [.agg [.int .i64 x1, .int .u64 x2, .int .i64 y1, .int .u64 y2], .agg [.int .i64 z1, .int .u64 z2, .int .i64 w1, .int .u64 w2]] [] =
      some (.tup [.agg [.int .i64 (both1 (fv x1 x2 + fv z1 z2) (fv y1 y2 + fv w1 w2) / 18446744073709551616), .int .u64 (both1 (fv x1 x2 + fv z1 z2) (fv y1 y2 + fv w1 w2) % 18446744073709551616), .int .i64 (both1 (fv y1 y2 + fv w1 w2) (fv x1 x2 + fv z1 z2) / 18446744073709551616), .int .u64 (both1 (fv y1 y2 + fv w1 w2) (fv x1 x2 + fv z1 z2) % 18446744073709551616)], .c (.int .i64 (bothE (fv x1 x2 + fv z1 z2) (fv y1 y2 + fv w1 w2)))], [], []) := by
  have h := E_each D 60 _ _ _ _ _ _ _ _ _ _ (E_add (D+1) k1 k3) (E_add (D+1) k2 k4)
  rw [ev_fn T127]; simp (maxSteps := 2000000) [ir127, h]
theorem E_vsub (D : Nat) {x1 x2 y1 y2 z1 z2 w1 w2 : Int} (k1 : okM x1 x2) (k2 : okM y1 y2) (k3 : okM z1 z2) (k4 : okM w1 w2) : evFun T (D+7) 99 [.agg [.int .i64 x1, .int .u64 x2, .int .i64 y1, .int .u64 y2], .agg [.int .i64 z1, .int .u64 z2, .int .i64 w1, .int .u64 w2]] [] =
      some (.tup [.agg [.int .i64 (both1 (fv x1 x2 - fv z1 z2) (fv y1 y2 - fv w1 w2) / 18446744073709551616), .int .u64 (both1 (fv x1 x2 - fv z1 z2) (fv y1 y2 - fv w1 w2) % 18446744073709551616), .int .i64 (both1 (fv y1 y2 - fv w1 w2) (fv x1 x2 - fv z1 z2) / 18446744073709551616), .int .u64 (both1 (fv y1 y2 - fv w1 w2) (fv x1 x2 - fv z1 z2) % 18446744073709551616)], .c (.int .i64 (bothE (fv x1 x2 - fv z1 z2) (fv y1 y2 - fv w1 w2)))], [], []) := by
  have h := E_each D 145 _ _ _ _ _ _ _ _ _ _ (E_sub D k1 k3) (E_sub D k2 k4)
  rw [ev_fn T99]; simp (maxSteps := 2000000) [ir99, h]
theorem E_eachmul (D : Nat) {x1 x2 y1 y2 z1 z2 w1 w2 : Int} (k1 : okF x1 x2) (k2 : okF y1 y2) (k3 : okF z1 z2) (k4 : okF w1 w2) : evFun T (D+6) 125 [.agg [.int .i64 x1, .int .u64 x2, .int .i64 y1, .int .u64 y2], .agg [.int .i64 z1, .int .u64 z2, .int .i64 w1, .int .u64 w2], .c (.fn 61 [])] [] =
      some (.tup [.agg [.int .i64 (both1 (mulI (fv x1 x2) (fv z1 z2)) (mulI (fv y1 y2) (fv w1 w2)) / 18446744073709551616), .int .u64 (both1 (mulI (fv x1 x2) (fv z1 z2)) (mulI (fv y1 y2) (fv w1 w2)) % 18446744073709551616), .int .i64 (both1 (mulI (fv y1 y2) (fv w1 w2)) (mulI (fv x1 x2) (fv z1 z2)) / 18446744073709551616), .int .u64 (both1 (mulI (fv y1 y2) (fv w1 w2)) (mulI (fv x1 x2) (fv z1 z2)) % 18446744073709551616)], .c (.int .i64 (bothE (mulI (fv x1 x2) (fv z1 z2)) (mulI (fv y1 y2) (fv w1 w2))))], [], []) :=
  E_each D 61 _ _ _ _ _ _ _ _ _ _ (E_mul (D+1) k1 k3) (E_mul (D+1) k2 k4)
theorem E_scale (D : Nat) {x1 x2 y1 y2 z1 z2 : Int} (k1 : okF x1 x2) (k2 : okF y1 y2) (k3 : okF z1 z2) : evFun T (D+7) 65 [.agg [.int .i64 x1, .int .u64 x2, .int .i64 y1, .int .u64 y2], .agg [.int .i64 z1, .int .u64 z2]] [] =
      some (.tup [.agg [.int .i64 (both1 (mulI (fv x1 x2) (fv z1 z2)) (mulI (fv y1 y2) (fv z1 z2)) / 18446744073709551616), .int .u64 (both1 (mulI (fv x1 x2) (fv z1 z2)) (mulI (fv y1 y2) (fv z1 z2)) % 18446744073709551616), .int .i64 (both1 (mulI (fv y1 y2) (fv z1 z2)) (mulI (fv x1 x2) (fv z1 z2)) / 18446744073709551616), .int .u64 (both1 (mulI (fv y1 y2) (fv z1 z2)) (mulI (fv x1 x2) (fv z1 z2)) % 18446744073709551616)], .c (.int .i64 (bothE (mulI (fv x1 x2) (fv z1 z2)) (mulI (fv y1 y2) (fv z1 z2))))], [], []) := by
  have h := E_eachmul D k1 k2 k3 k3
  rw [ev_fn T65]; simp (maxSteps := 2000000) [ir65, h]
/-- How far two ways go together. -/
def dotE (x y z w : Int) : Int := doE (bothE (mulI x z) (mulI y w)) (both1 (mulI x z) (mulI y w) + both1 (mulI y w) (mulI x z))
def dotN (x y z w : Int) : Int := doN (bothE (mulI x z) (mulI y w)) (both1 (mulI x z) (mulI y w) + both1 (mulI y w) (mulI x z))
theorem E_dot (D : Nat) {x1 x2 y1 y2 z1 z2 w1 w2 : Int} (k1 : okF x1 x2) (k2 : okF y1 y2) (k3 : okF z1 z2) (k4 : okF w1 w2) : evFun T (D+7) 111 [.agg [.int .i64 x1, .int .u64 x2, .int .i64 y1, .int .u64 y2], .agg [.int .i64 z1, .int .u64 z2, .int .i64 w1, .int .u64 w2]] [] =
      some (.tup [.agg [.int .i64 (dotN (fv x1 x2) (fv y1 y2) (fv z1 z2) (fv w1 w2) / 18446744073709551616), .int .u64 (dotN (fv x1 x2) (fv y1 y2) (fv z1 z2) (fv w1 w2) % 18446744073709551616)], .c (.int .i64 (dotE (fv x1 x2) (fv y1 y2) (fv z1 z2) (fv w1 w2)))], [], []) := by
  have h := E_eachmul D k1 k2 k3 k4
  unfold dotE dotN
  generalize mulI (fv x1 x2) (fv z1 z2) = X at *
  generalize mulI (fv y1 y2) (fv w1 w2) = Y at *
  by_cases e : bothE X Y = 0
  · have h2 := E_add (D+2) (okM_both X Y) (okM_both Y X)
    rw [fv_dm, fv_dm] at h2
    unfold doE doN
    rw [if_pos e, if_pos e]
    rw [e] at h
    rw [ev_fn T111]; simp (maxSteps := 2000000) [ir111, h, h2]
  · have e4 : (bothE X Y != 0) = true := by simpa using e
    unfold doE doN
    rw [if_neg e, if_neg e]
    rw [ev_fn T111]; simp (maxSteps := 2000000) [ir111, h, e4]
theorem E_len2 (D : Nat) {x1 x2 y1 y2 : Int} (k1 : okF x1 x2) (k2 : okF y1 y2) : evFun T (D+8) 58 [.agg [.int .i64 x1, .int .u64 x2, .int .i64 y1, .int .u64 y2]] [] =
      some (.tup [.agg [.int .i64 (len2N (fv x1 x2) (fv y1 y2) / 18446744073709551616), .int .u64 (len2N (fv x1 x2) (fv y1 y2) % 18446744073709551616)], .c (.int .i64 (len2E (fv x1 x2) (fv y1 y2)))], [], []) := by
  have h := E_dot D k1 k2 k1 k2
  rw [show dotN (fv x1 x2) (fv y1 y2) (fv x1 x2) (fv y1 y2) = len2N (fv x1 x2) (fv y1 y2) from rfl, show dotE (fv x1 x2) (fv y1 y2) (fv x1 x2) (fv y1 y2) = len2E (fv x1 x2) (fv y1 y2) from rfl] at h
  rw [ev_fn T58]; simp (maxSteps := 2000000) [ir58, h]
end Go.Ab

namespace Go.Ab
attribute [local simp] runFn args0 e_skip e_reg regC_some e_seq seqC_n seqC_e seqC_r e_cond condC_t condC_f e_block e_loop e_exit e_ret nextC_n nextC_e nextC_r nextK_n nextK_e nextK_r evReg evOps evOp wants fp St.ev St.get St.set St.sets St.put St.apply St.pre preK inB lk up del hits V.cells V.cellsG allPlain Cell.plain pure1 keysOf okUn noK Ev.apart meets mkV splice fillC binC unC mmC eqCs eqC resVs resV one export1 V.keys V.keys1 outKeys valsKeys cellsKeys Cell.keys Blk.keys elsKeys fpCall fpCallG noTup reach getAll outW newW names srcs capsOf onesOf slB rowsOf V.ren V.ren1 Cell.ren Loc.ren locsRen Blk.ren inR outR place nm St.sweep swept St.kill killR lmap delAll St.trim reachL expR ownGet b2i_le wrap_u64 wrap_i64 bits_u64 bits_i64 or_u64 and_u64 Int.fdiv_eq_ediv_of_nonneg word mmC hits
theorem E_do (D g t : Nat) (a1 a2 b1 b2 e N E : Int)
    (hx : e = 0 → evFun T (D+6) g [.agg [.int .i64 a1, .int .u64 a2], .agg [.int .i64 b1, .int .u64 b2]] [] = some (.tup [.agg [.int .i64 (N / 18446744073709551616), .int .u64 (N % 18446744073709551616)], .c (.int .i64 E)], [], [])) :
    evFun T (D+7) 59 [.c (.ptr ⟨.o 0, 0, 0⟩), .c (.fn g []), .agg [.int .i64 a1, .int .u64 a2], .agg [.int .i64 b1, .int .u64 b2]] [⟨t, 1, true, true, [[.int .i64 e]]⟩] =
      some (.agg [.int .i64 ((if e = 0 then N else 0) / 18446744073709551616), .int .u64 ((if e = 0 then N else 0) % 18446744073709551616)], [some ⟨t, 1, true, true, [[.int .i64 (if e = 0 then E else e)]]⟩], []) := by
  by_cases h : e = 0
  · rw [if_pos h, if_pos h]
    have hx := hx h
    subst h
    rw [ev_fn T59]; simp (maxSteps := 2000000) [ir59, hx]
  · rw [if_neg h, if_neg h]
    have e4 : (e != 0) = true := by simpa using h
    rw [ev_fn T59]; simp (maxSteps := 2000000) [ir59, e4]
variable {a1 a2 b1 b2 : Int}
theorem E_do_add (D t : Nat) (e : Int) (k1 : okM a1 a2) (k2 : okM b1 b2) : evFun T (D+7) 59 [.c (.ptr ⟨.o 0, 0, 0⟩), .c (.fn 60 []), .agg [.int .i64 a1, .int .u64 a2], .agg [.int .i64 b1, .int .u64 b2]] [⟨t, 1, true, true, [[.int .i64 e]]⟩] =
      some (.agg [.int .i64 (doN e (fv a1 a2 + fv b1 b2) / 18446744073709551616), .int .u64 (doN e (fv a1 a2 + fv b1 b2) % 18446744073709551616)], [some ⟨t, 1, true, true, [[.int .i64 (doE e (fv a1 a2 + fv b1 b2))]]⟩], []) :=
  E_do D 60 t a1 a2 b1 b2 e _ _ fun _ => E_add (D+2) k1 k2
theorem E_do_mul (D t : Nat) (e : Int) (k1 : okM a1 a2) (k2 : okM b1 b2) : evFun T (D+7) 59 [.c (.ptr ⟨.o 0, 0, 0⟩), .c (.fn 61 []), .agg [.int .i64 a1, .int .u64 a2], .agg [.int .i64 b1, .int .u64 b2]] [⟨t, 1, true, true, [[.int .i64 e]]⟩] =
      some (.agg [.int .i64 (doN e (mulI (fv a1 a2) (fv b1 b2)) / 18446744073709551616), .int .u64 (doN e (mulI (fv a1 a2) (fv b1 b2)) % 18446744073709551616)], [some ⟨t, 1, true, true, [[.int .i64 (doE e (mulI (fv a1 a2) (fv b1 b2)))]]⟩], []) :=
  E_do D 61 t a1 a2 b1 b2 e _ _ fun _ => E_mul (D+2) k1.f k2.f
theorem E_do_div (D t : Nat) (e : Int) (k1 : okM a1 a2) (k2 : okM b1 b2) : evFun T (D+7) 59 [.c (.ptr ⟨.o 0, 0, 0⟩), .c (.fn 64 []), .agg [.int .i64 a1, .int .u64 a2], .agg [.int .i64 b1, .int .u64 b2]] [⟨t, 1, true, true, [[.int .i64 e]]⟩] =
      some (.agg [.int .i64 (doDN e (fv a1 a2) (fv b1 b2) / 18446744073709551616), .int .u64 (doDN e (fv a1 a2) (fv b1 b2) % 18446744073709551616)], [some ⟨t, 1, true, true, [[.int .i64 (doDE e (fv a1 a2) (fv b1 b2))]]⟩], []) :=
  E_do D 64 t a1 a2 b1 b2 e _ _ fun _ => E_div (D+2) k1.f k2.f
theorem E_root (D : Nat) (k1 : okM a1 a2) : evFun T (D+6) 62 [.agg [.int .i64 a1, .int .u64 a2], .agg [.int .i64 b1, .int .u64 b2]] [] =
    some (.tup [.agg [.int .i64 (rootI (fv a1 a2) / 18446744073709551616), .int .u64 (rootI (fv a1 a2) % 18446744073709551616)], .c (.int .i64 (rootE (fv a1 a2)))], [], []) := by
  have h := E_sqrt D k1
  rw [ev_fn T62]; simp (maxSteps := 2000000) [ir62, h]
theorem E_do_root (D t : Nat) (e : Int) (k1 : okM a1 a2) : evFun T (D+7) 59 [.c (.ptr ⟨.o 0, 0, 0⟩), .c (.fn 62 []), .agg [.int .i64 a1, .int .u64 a2], .agg [.int .i64 b1, .int .u64 b2]] [⟨t, 1, true, true, [[.int .i64 e]]⟩] =
      some (.agg [.int .i64 (doRN e (fv a1 a2) / 18446744073709551616), .int .u64 (doRN e (fv a1 a2) % 18446744073709551616)], [some ⟨t, 1, true, true, [[.int .i64 (doRE e (fv a1 a2))]]⟩], []) :=
  E_do D 62 t a1 a2 b1 b2 e _ _ fun _ => E_root D k1
theorem okM_len2N (x y : Int) : okM (len2N x y / 18446744073709551616) (len2N x y % 18446744073709551616) := okM_doN _ _
theorem okM_doRN (e a : Int) (h : a < 170141183460469231731687303715884105728) : okM (doRN e a / 18446744073709551616) (doRN e a % 18446744073709551616) := by
  unfold doRN; split
  · have := rootI_may a h
    exact okM_of (by omega)
  · exact okM_z
theorem doN_lt (e x : Int) : doN e x < 170141183460469231731687303715884105728 := by
  unfold doN; split
  · exact (fitN_may x).2
  · omega
theorem E_pull (D : Nat) {g1 g2 a1 a2 b1 b2 x1 x2 y1 y2 s1 s2 h1 h2 : Int} (kg : okM g1 g2) (ka : okM a1 a2) (kb : okM b1 b2) (kx : okM x1 x2) (ky : okM y1 y2) (ks : okM s1 s2) (kh : okM h1 h2) :
    evFun T (D+9) 18 [.agg [.int .i64 g1, .int .u64 g2], .agg [.int .i64 a1, .int .u64 a2], .agg [.int .i64 b1, .int .u64 b2], .agg [.int .i64 x1, .int .u64 x2, .int .i64 y1, .int .u64 y2], .agg [.int .i64 s1, .int .u64 s2], .agg [.int .i64 h1, .int .u64 h2]] [] =
      some (.tup [.agg [.int .i64 (pullX (fv g1 g2) (fv a1 a2) (fv b1 b2) (fv x1 x2) (fv y1 y2) (fv s1 s2) (fv h1 h2) / 18446744073709551616), .int .u64 (pullX (fv g1 g2) (fv a1 a2) (fv b1 b2) (fv x1 x2) (fv y1 y2) (fv s1 s2) (fv h1 h2) % 18446744073709551616), .int .i64 (pullY (fv g1 g2) (fv a1 a2) (fv b1 b2) (fv x1 x2) (fv y1 y2) (fv s1 s2) (fv h1 h2) / 18446744073709551616), .int .u64 (pullY (fv g1 g2) (fv a1 a2) (fv b1 b2) (fv x1 x2) (fv y1 y2) (fv s1 s2) (fv h1 h2) % 18446744073709551616)], .c (.int .i64 (pullE (fv g1 g2) (fv a1 a2) (fv b1 b2) (fv x1 x2) (fv y1 y2) (fv s1 s2) (fv h1 h2)))], [], []) := by
  have hl := E_len2 D kx.f ky.f
  have kn := okM_len2N (fv x1 x2) (fv y1 y2)
  by_cases q : (pullK (fv g1 g2) (fv a1 a2) (fv b1 b2) (len2N (fv x1 x2) (fv y1 y2)) (len2E (fv x1 x2) (fv y1 y2)) (fv s1 s2) (fv h1 h2)).e = 0
  · unfold pullX pullY pullE
    simp only [q, if_true]
    simp only [pullK] at q ⊢
    generalize len2N (fv x1 x2) (fv y1 y2) = n at *
    generalize len2E (fv x1 x2) (fv y1 y2) = e0 at *
    rw [ev_fn T18]; simp (maxSteps := 2000000) [ir18, hl, kn, kg, ka, kb, ks, kh, E_do_add, E_do_mul, E_do_div, E_do_root, okM_doN, okM_doDN, okM_doRN, doN_lt, fv_dm, q, E_scale, kx.f, ky.f, okM.f]
  · unfold pullX pullY pullE
    simp only [q, if_false]
    have q' : ((pullK (fv g1 g2) (fv a1 a2) (fv b1 b2) (len2N (fv x1 x2) (fv y1 y2)) (len2E (fv x1 x2) (fv y1 y2)) (fv s1 s2) (fv h1 h2)).e != 0) = true := by simpa using q
    simp only [pullK] at q' ⊢
    generalize len2N (fv x1 x2) (fv y1 y2) = n at *
    generalize len2E (fv x1 x2) (fv y1 y2) = e0 at *
    clear q
    rw [ev_fn T18]; simp (maxSteps := 2000000) [ir18, hl, kn, kg, ka, kb, ks, kh, E_do_add, E_do_mul, E_do_div, E_do_root, okM_doN, okM_doDN, okM_doRN, doN_lt, fv_dm, q']
end Go.Ab

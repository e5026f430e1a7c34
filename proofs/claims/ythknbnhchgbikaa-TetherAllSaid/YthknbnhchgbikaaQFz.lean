/- Words for this claim: an evaluator of the program's functions, and what they come to. -/
import Derived.Test.YthknbnhchgbikaaQFw
set_option linter.all false
namespace Go.Ab
attribute [local simp] runFn args0 e_skip e_reg regC_some e_seq seqC_n seqC_e seqC_r e_cond condC_t condC_f e_block e_loop e_exit e_ret nextC_n nextC_e nextC_r nextK_n nextK_e nextK_r evReg evOps evOp wants fp St.ev St.get St.set St.sets St.put St.apply St.pre preK inB lk up del hits V.cells V.cellsG allPlain Cell.plain pure1 keysOf okUn noK Ev.apart meets mkV splice fillC binC unC mmC eqCs eqC resVs resV one export1 V.keys V.keys1 outKeys valsKeys cellsKeys Cell.keys Blk.keys elsKeys fpCall fpCallG noTup reach getAll outW newW names srcs capsOf onesOf slB rowsOf V.ren V.ren1 Cell.ren Loc.ren locsRen Blk.ren inR outR place nm St.sweep swept St.kill killR lmap delAll St.trim reachL expR ownGet b2i_le wrap_u64 wrap_i64 bits_u64 bits_i64 or_u64 and_u64 Int.fdiv_eq_ediv_of_nonneg word mmC hits
def okI (x : Int) : Prop := -170141183460469231731687303715884105728 ≤ x ∧ x < 170141183460469231731687303715884105728
theorem okI_F {x : Int} (h : okI x) : okF (x / 18446744073709551616) (x % 18446744073709551616) := okF_of h
def mayB (x : Int) : Bool := decide (-170141183460469231731687303715884105728 < x)
theorem mayB_may {x : Int} (k : okI x) (h : mayB x = true) : mayI x := ⟨by unfold mayB at h; simpa using h, k.2⟩
theorem R_mayB (D : Nat) {x : Int} (k : okI x) : evFun T (D+1) 22 [.agg [.int .i64 ((x) / 18446744073709551616), .int .u64 ((x) % 18446744073709551616)]] [] = some (.c (.bool (mayB x)), [], []) := by
  by_cases h : -170141183460469231731687303715884105728 < x
  · rw [E_rmay1 D (okM_of ⟨h, k.2⟩)]
    unfold mayB; rw [decide_eq_true h]
  · rw [E_rmay0 D (okI_F k) (fun q => h (by have := okM_fv q; rw [fv_dm] at this; omega))]
    unfold mayB; rw [decide_eq_false h]
theorem cmp_ge {a b : Int} : decide (0 ≤ cmpI a b) = decide (b ≤ a) := by unfold cmpI; repeat' split <;> simp <;> omega
theorem cmp_lt {a b : Int} : decide (cmpI a b < 0) = decide (a < b) := by unfold cmpI; repeat' split <;> simp <;> omega
def fromB (x lo hi : Int) : Bool := mayB x && (decide (lo ≤ x) && decide (x ≤ hi))
theorem R_from (D : Nat) {x lo hi : Int} (k : okI x) (kl : okI lo) (kh : okI hi) : evFun T (D+2) 93 [.agg [.int .i64 ((x) / 18446744073709551616), .int .u64 ((x) % 18446744073709551616)], .agg [.int .i64 ((lo) / 18446744073709551616), .int .u64 ((lo) % 18446744073709551616)], .agg [.int .i64 ((hi) / 18446744073709551616), .int .u64 ((hi) % 18446744073709551616)]] [] = some (.c (.bool (fromB x lo hi)), [], []) := by
  have m := R_mayB D k
  have q1 := E_rcmp D (okI_F k) (okI_F kl)
  have q2 := E_rcmp D (okI_F k) (okI_F kh)
  simp only [fv_dm] at q1 q2
  have c1 := cmp_ge (a := x) (b := lo)
  have c2 := cmp_le (a := x) (b := hi)
  generalize cmpI x lo = A at *
  generalize cmpI x hi = C at *
  unfold fromB
  rw [← c1, ← c2]
  cases hm : mayB x
  · rw [hm] at m
    rw [ev_fn T93]; (try simp only [Nat.add_assoc, Nat.reduceAdd] at m); obtain ⟨call, hcall⟩ : ∃ call, call = evFun T (D + 1) := ⟨_, rfl⟩; rw [← hcall] at m ⊢; clear hcall; simp (maxSteps := 2000000) [ir93, m]
  · rw [hm] at m
    by_cases h1 : 0 ≤ A
    · rw [ev_fn T93]; (try simp only [Nat.add_assoc, Nat.reduceAdd] at m q1 q2); obtain ⟨call, hcall⟩ : ∃ call, call = evFun T (D + 1) := ⟨_, rfl⟩; rw [← hcall] at m q1 q2 ⊢; clear hcall; simp (maxSteps := 2000000) [ir93, m, q1, q2, h1]
    · rw [ev_fn T93]; (try simp only [Nat.add_assoc, Nat.reduceAdd] at m q1); obtain ⟨call, hcall⟩ : ∃ call, call = evFun T (D + 1) := ⟨_, rfl⟩; rw [← hcall] at m q1 ⊢; clear hcall; simp (maxSteps := 2000000) [ir93, m, q1, h1]
theorem R_to (D : Nat) {x m : Int} (k : okI x) (km : 0 ≤ m ∧ m ≤ 1099511627776) : evFun T (D+3) 94 [.agg [.int .i64 ((x) / 18446744073709551616), .int .u64 ((x) % 18446744073709551616)], .c (.int .i64 m)] [] = some (.c (.bool (fromB x 0 (m * 18446744073709551616))), [], []) := by
  have i := E_rint (D+1) (n := m) (by omega)
  have f := R_from D (lo := 0) (hi := m * 18446744073709551616) k (by unfold okI; omega) (by unfold okI; omega)
  rw [show m * 18446744073709551616 / 18446744073709551616 = m by omega, show m * 18446744073709551616 % 18446744073709551616 = 0 by omega, show (0 : Int) / 18446744073709551616 = 0 by omega, show (0 : Int) % 18446744073709551616 = 0 by omega] at f
  generalize fromB x 0 (m * 18446744073709551616) = v at *
  rw [ev_fn T94]; (try simp only [Nat.add_assoc, Nat.reduceAdd] at i f); obtain ⟨call, hcall⟩ : ∃ call, call = evFun T (D + 2) := ⟨_, rfl⟩; rw [← hcall] at i f ⊢; clear hcall; simp (maxSteps := 2000000) [ir94, i, f]
theorem R_mayvec (D : Nat) {x y : Int} (k : okI x) (ky : okI y) : evFun T (D+2) 95 [.agg [.int .i64 ((x) / 18446744073709551616), .int .u64 ((x) % 18446744073709551616), .int .i64 ((y) / 18446744073709551616), .int .u64 ((y) % 18446744073709551616)]] [] = some (.c (.bool (mayB x && mayB y)), [], []) := by
  have a := R_mayB D k
  have b := R_mayB D ky
  cases hm : mayB x
  · rw [hm] at a
    rw [ev_fn T95]; (try simp only [Nat.add_assoc, Nat.reduceAdd] at a); obtain ⟨call, hcall⟩ : ∃ call, call = evFun T (D + 1) := ⟨_, rfl⟩; rw [← hcall] at a ⊢; clear hcall; simp (maxSteps := 2000000) [ir95, a]
  · rw [hm] at a
    rw [ev_fn T95]; (try simp only [Nat.add_assoc, Nat.reduceAdd] at a b); obtain ⟨call, hcall⟩ : ∃ call, call = evFun T (D + 1) := ⟨_, rfl⟩; rw [← hcall] at a b ⊢; clear hcall; simp (maxSteps := 2000000) [ir95, a, b]
theorem R_beyond (D : Nat) {x m : Int} (k : okI x) (km : 0 < m ∧ m ≤ 1099511627776) : ∃ v, evFun T (D+2) 144 [.agg [.int .i64 ((x) / 18446744073709551616), .int .u64 ((x) % 18446744073709551616)], .c (.int .i64 m)] [] = some (.c (.bool v), [], []) := by
  have i := E_rint D (n := m) (by omega)
  have i2 := E_rint D (n := -m) (by omega)
  have q1 := E_rcmp D (okI_F k) (okM_int (n := m) (by omega) (by omega)).f
  have q2 := E_rcmp D (okI_F k) (okM_int (n := -m) (by omega) (by omega)).f
  have e1 : (-m + 9223372036854775808) % 18446744073709551616 - 9223372036854775808 = -m := by omega
  generalize cmpI (fv (x / 18446744073709551616) (x % 18446744073709551616)) (fv m 0) = A at *
  generalize cmpI (fv (x / 18446744073709551616) (x % 18446744073709551616)) (fv (-m) 0) = C at *
  by_cases h1 : 0 < A
  · refine ⟨true, ?_⟩
    rw [ev_fn T144]; (try simp only [Nat.add_assoc, Nat.reduceAdd] at i q1); obtain ⟨call, hcall⟩ : ∃ call, call = evFun T (D + 1) := ⟨_, rfl⟩; rw [← hcall] at i q1 ⊢; clear hcall; simp (maxSteps := 2000000) [ir144, i, q1, h1]
  · refine ⟨decide (C < 0), ?_⟩
    rw [ev_fn T144]; (try simp only [Nat.add_assoc, Nat.reduceAdd] at i i2 q1 q2); obtain ⟨call, hcall⟩ : ∃ call, call = evFun T (D + 1) := ⟨_, rfl⟩; rw [← hcall] at i i2 q1 q2 ⊢; clear hcall; simp (maxSteps := 2000000) [ir144, i, i2, q1, q2, h1, e1]
theorem R_inside (D : Nat) {x y : Int} (k : okI x) (ky : okI y) : ∃ v, evFun T (D+3) 97 [.agg [.int .i64 ((x) / 18446744073709551616), .int .u64 ((x) % 18446744073709551616), .int .i64 ((y) / 18446744073709551616), .int .u64 ((y) % 18446744073709551616)]] [] = some (.c (.bool v), [], []) := by
  obtain ⟨v, a⟩ := R_beyond D k (m := 1073741824) (by omega)
  obtain ⟨w, b⟩ := R_beyond D ky (m := 1073741824) (by omega)
  cases v
  · refine ⟨!w, ?_⟩
    rw [ev_fn T97]; (try simp only [Nat.add_assoc, Nat.reduceAdd] at a b); obtain ⟨call, hcall⟩ : ∃ call, call = evFun T (D + 2) := ⟨_, rfl⟩; rw [← hcall] at a b ⊢; clear hcall; simp (maxSteps := 2000000) [ir97, a, b]
  · refine ⟨false, ?_⟩
    rw [ev_fn T97]; (try simp only [Nat.add_assoc, Nat.reduceAdd] at a); obtain ⟨call, hcall⟩ : ∃ call, call = evFun T (D + 2) := ⟨_, rfl⟩; rw [← hcall] at a ⊢; clear hcall; simp (maxSteps := 2000000) [ir97, a]
theorem may_okI {x : Int} (h : mayI x) : okI x := ⟨by have := h.1; omega, h.2⟩
theorem R_slow (D : Nat) (b : Bd) (k : b.ok) : ∃ v e, evFun T (D+7) 96 [.agg b.row] [] = some (.agg [.bool v, .int .i64 e], [], []) := by
  have s := R_speed D b k
  simp only [Bd.row] at s
  obtain ⟨v, p⟩ := R_beyond (D+4) (may_okI (over1_may b.p b.q b.m)) (m := 65536) (by omega)
  obtain ⟨w, q⟩ := R_beyond (D+4) (may_okI (over1_may b.q b.p b.m)) (m := 65536) (by omega)
  by_cases h : overE b.p b.q b.m = 0
  · rw [h] at s
    cases v
    · refine ⟨!w, 0, ?_⟩
      rw [ev_fn T96]; (try simp only [Nat.add_assoc, Nat.reduceAdd] at s p q); obtain ⟨call, hcall⟩ : ∃ call, call = evFun T (D + 6) := ⟨_, rfl⟩; rw [← hcall] at s p q ⊢; clear hcall; simp (maxSteps := 2000000) [ir96, Bd.row, s, p, q]
    · refine ⟨false, 0, ?_⟩
      rw [ev_fn T96]; (try simp only [Nat.add_assoc, Nat.reduceAdd] at s p); obtain ⟨call, hcall⟩ : ∃ call, call = evFun T (D + 6) := ⟨_, rfl⟩; rw [← hcall] at s p ⊢; clear hcall; simp (maxSteps := 2000000) [ir96, Bd.row, s, p]
  · have e4 : (overE b.p b.q b.m != 0) = true := by simpa using h
    refine ⟨false, overE b.p b.q b.m, ?_⟩
    rw [ev_fn T96]; (try simp only [Nat.add_assoc, Nat.reduceAdd] at s); obtain ⟨call, hcall⟩ : ∃ call, call = evFun T (D + 6) := ⟨_, rfl⟩; rw [← hcall] at s ⊢; clear hcall; simp (maxSteps := 2000000) [ir96, Bd.row, s, e4]
theorem R_within (D : Nat) (n lo hi : Int) : ∃ v, evFun T (D+1) 98 [.c (.int .i64 n), .c (.int .i64 lo), .c (.int .i64 hi)] [] = some (.c (.bool v), [], []) := by
  by_cases h1 : lo ≤ n
  · refine ⟨decide (n ≤ hi), ?_⟩
    rw [ev_fn T98]; simp (maxSteps := 2000000) [ir98, h1]
  · refine ⟨false, ?_⟩
    rw [ev_fn T98]; simp (maxSteps := 2000000) [ir98, h1]
end Go.Ab

/- Words for this claim: an evaluator of the program's functions, and what they come to. -/
import Derived.Test.YthknbnhchgbikaaQFh
import Derived.Test.YthknbnhchgbikaaAb4
set_option linter.all false
namespace Go.Ab
attribute [local simp] runFn args0 e_skip e_reg regC_some e_seq seqC_n seqC_e seqC_r e_cond condC_t condC_f e_block e_loop e_exit e_ret nextC_n nextC_e nextC_r nextK_n nextK_e nextK_r evReg evOps evOp wants fp St.ev St.get St.set St.sets St.put St.apply St.pre preK inB lk up del hits V.cells V.cellsG allPlain Cell.plain pure1 keysOf okUn noK Ev.apart meets mkV splice fillC binC unC mmC eqCs eqC resVs resV one export1 V.keys V.keys1 outKeys valsKeys cellsKeys Cell.keys Blk.keys elsKeys fpCall fpCallG noTup reach getAll outW newW names srcs capsOf onesOf slB rowsOf V.ren V.ren1 Cell.ren Loc.ren locsRen Blk.ren inR outR place nm St.sweep swept St.kill killR lmap delAll St.trim reachL expR ownGet b2i_le wrap_u64 wrap_i64 bits_u64 bits_i64 or_u64 and_u64 Int.fdiv_eq_ediv_of_nonneg word mmC hits
def overE (p q m : Int) : Int := if divE p m = 0 then divE q m else divE p m
def over1 (p q m : Int) : Int := if divE p m = 0 ∧ divE q m = 0 then divI p m else 0
theorem divE_fit {a b : Int} (h : divE a b = 0) : fitN (divI a b) = divI a b ∧ mayI (divI a b) := by
  unfold divE at h
  split at h
  · simp at h
  · exact ⟨fitN_of h, fitE_iff.1 h⟩
theorem over1_may (p q m : Int) : mayI (over1 p q m) := by
  unfold over1
  split
  · rename_i h; exact (divE_fit h.1).2
  · unfold mayI; omega
theorem overE_zero {p q m : Int} : overE p q m = 0 ↔ divE p m = 0 ∧ divE q m = 0 := by
  unfold overE; split <;> simp_all
def lenE (x y : Int) : Int := if len2E x y = 0 then rootE (len2N x y) else len2E x y
def lenN (x y : Int) : Int := if len2E x y = 0 then rootI (len2N x y) else 0
/-- How far, and whether it is more than the length. -/
def apartE (l x y : Int) : Int := if len2E x y = 0 then fitE (mulI l l) else len2E x y
def apartIs (l x y : Int) : Bool := decide (apartE l x y = 0) && decide (mulI l l < len2N x y)
/-- How fast two part. -/
def wX (a b : Bd) : Int := both1 (over1 b.p b.q b.m - over1 a.p a.q a.m) (over1 b.q b.p b.m - over1 a.q a.p a.m)
def wY (a b : Bd) : Int := both1 (over1 b.q b.p b.m - over1 a.q a.p a.m) (over1 b.p b.q b.m - over1 a.p a.q a.m)
def wE (a b : Bd) : Int := if overE a.p a.q a.m ≠ 0 then overE a.p a.q a.m else if overE b.p b.q b.m ≠ 0 then overE b.p b.q b.m else bothE (over1 b.p b.q b.m - over1 a.p a.q a.m) (over1 b.q b.p b.m - over1 a.q a.p a.m)
def massE (a b : Int) : Int := if fitE (mulI a b) ≠ 0 then fitE (mulI a b) else if fitE (a + b) ≠ 0 then fitE (a + b) else divE (mulI a b) (a + b)
def massN (a b : Int) : Int := if massE a b = 0 then divI (mulI a b) (a + b) else 0
/-- What holds two. -/
def hE (a b v far : Int) : Int := if massE a b ≠ 0 then massE a b else if fitE (mulI (massN a b) v) ≠ 0 then fitE (mulI (massN a b) v) else divE (mulI (massN a b) v) far
def hN (a b v far : Int) : Int := divI (mulI (massN a b) v) far
structure Jk where
  x : Int
  y : Int
  pulls : Bool
  breaks : Bool
  e : Int
def jerkS (l lim : Int) (a b : Bd) : Jk :=
  if bothE (b.x - a.x) (b.y - a.y) ≠ 0 then ⟨0, 0, false, false, bothE (b.x - a.x) (b.y - a.y)⟩ else
  let x := b.x - a.x
  let y := b.y - a.y
  if apartE l x y ≠ 0 then ⟨0, 0, false, false, apartE l x y⟩ else
  if apartIs l x y = false then ⟨0, 0, false, false, 0⟩ else
  if wE a b ≠ 0 then ⟨0, 0, false, false, wE a b⟩ else
  let v := dotN x y (wX a b) (wY a b)
  if dotE x y (wX a b) (wY a b) ≠ 0 then ⟨0, 0, false, false, dotE x y (wX a b) (wY a b)⟩ else
  if v ≤ 0 then ⟨0, 0, false, false, 0⟩ else
  let k := hN a.m b.m v (len2N x y)
  if hE a.m b.m v (len2N x y) ≠ 0 then ⟨0, 0, false, false, hE a.m b.m v (len2N x y)⟩ else
  if bothE (mulI x k) (mulI y k) ≠ 0 then ⟨0, 0, false, false, bothE (mulI x k) (mulI y k)⟩ else
  if lenE (mulI x k) (mulI y k) ≠ 0 then ⟨0, 0, false, false, lenE (mulI x k) (mulI y k)⟩ else
  if lim < lenN (mulI x k) (mulI y k) then ⟨0, 0, false, true, 0⟩ else ⟨mulI x k, mulI y k, true, false, 0⟩

theorem okM_w {x : Int} (h : mayI x) : okM (x / 18446744073709551616) (x % 18446744073709551616) := okM_may h
theorem E_over (D : Nat) {p q m : Int} (kp : mayI p) (kq : mayI q) (km : mayI m) : evFun T (D+5) 176 [.agg [.int .i64 ((p) / 18446744073709551616), .int .u64 ((p) % 18446744073709551616), .int .i64 ((q) / 18446744073709551616), .int .u64 ((q) % 18446744073709551616)], .agg [.int .i64 ((m) / 18446744073709551616), .int .u64 ((m) % 18446744073709551616)]] [] = some (.tup [.agg [.int .i64 ((over1 p q m) / 18446744073709551616), .int .u64 ((over1 p q m) % 18446744073709551616), .int .i64 ((over1 q p m) / 18446744073709551616), .int .u64 ((over1 q p m) % 18446744073709551616)], .c (.int .i64 (overE p q m))], [], []) := by
  have a := E_div D (okM_may kp).f (okM_may km).f
  have b := E_div D (okM_may kq).f (okM_may km).f
  simp only [fv_dm] at a b
  by_cases h1 : divE p m = 0
  · rw [h1, (divE_fit h1).1] at a
    by_cases h2 : divE q m = 0
    · rw [h2, (divE_fit h2).1] at b
      rw [show overE p q m = 0 from overE_zero.2 ⟨h1, h2⟩, show over1 p q m = divI p m by unfold over1; rw [if_pos ⟨h1, h2⟩], show over1 q p m = divI q m by unfold over1; rw [if_pos ⟨h2, h1⟩]]
      rw [ev_fn T176]; (try simp only [Nat.add_assoc, Nat.reduceAdd] at a b); obtain ⟨call, hcall⟩ : ∃ call, call = evFun T (D + 4) := ⟨_, rfl⟩; rw [← hcall] at a b ⊢; clear hcall; simp (maxSteps := 2000000) [ir176, a, b]
    · have e4 : (divE q m != 0) = true := by simpa using h2
      rw [show overE p q m = divE q m by unfold overE; rw [if_pos h1], show over1 p q m = 0 by unfold over1; rw [if_neg (fun z => h2 z.2)], show over1 q p m = 0 by unfold over1; rw [if_neg (fun z => h2 z.1)]]
      rw [ev_fn T176]; (try simp only [Nat.add_assoc, Nat.reduceAdd] at a b); obtain ⟨call, hcall⟩ : ∃ call, call = evFun T (D + 4) := ⟨_, rfl⟩; rw [← hcall] at a b ⊢; clear hcall; simp (maxSteps := 2000000) [ir176, a, b, e4]
  · have e4 : (divE p m != 0) = true := by simpa using h1
    rw [show overE p q m = divE p m by unfold overE; rw [if_neg h1], show over1 p q m = 0 by unfold over1; rw [if_neg (fun z => h1 z.1)], show over1 q p m = 0 by unfold over1; rw [if_neg (fun z => h1 z.2)]]
    rw [ev_fn T176]; (try simp only [Nat.add_assoc, Nat.reduceAdd] at a); obtain ⟨call, hcall⟩ : ∃ call, call = evFun T (D + 4) := ⟨_, rfl⟩; rw [← hcall] at a ⊢; clear hcall; simp (maxSteps := 2000000) [ir176, a, e4]
theorem E_speed (D : Nat) (b : Bd) (k : b.ok) : evFun T (D+6) 146 [.agg b.row] [] = some (.tup [.agg [.int .i64 ((over1 b.p b.q b.m) / 18446744073709551616), .int .u64 ((over1 b.p b.q b.m) % 18446744073709551616), .int .i64 ((over1 b.q b.p b.m) / 18446744073709551616), .int .u64 ((over1 b.q b.p b.m) % 18446744073709551616)], .c (.int .i64 (overE b.p b.q b.m))], [], []) := by
  have a := E_over D k.2.2.2.1 k.2.2.2.2 k.1
  rw [ev_fn T146]; (try simp only [Nat.add_assoc, Nat.reduceAdd] at a); obtain ⟨call, hcall⟩ : ∃ call, call = evFun T (D + 5) := ⟨_, rfl⟩; rw [← hcall] at a ⊢; clear hcall; simp (maxSteps := 2000000) [ir146, Bd.row, a]
theorem len2N_may (x y : Int) : mayI (len2N x y) := by
  unfold len2N doN
  split
  · exact fitN_may _
  · unfold mayI; omega
theorem dotN_may (x y z w : Int) : mayI (dotN x y z w) := by
  unfold dotN doN
  split
  · exact fitN_may _
  · unfold mayI; omega
theorem E_vlen (D : Nat) {x y : Int} (kx : mayI x) (ky : mayI y) : evFun T (D+9) 104 [.agg [.int .i64 ((x) / 18446744073709551616), .int .u64 ((x) % 18446744073709551616), .int .i64 ((y) / 18446744073709551616), .int .u64 ((y) % 18446744073709551616)]] [] = some (.tup [.agg [.int .i64 ((lenN x y) / 18446744073709551616), .int .u64 ((lenN x y) % 18446744073709551616)], .c (.int .i64 (lenE x y))], [], []) := by
  have a := E_len2 D (okM_may kx).f (okM_may ky).f
  have b := E_sqrt (D+3) (okM_may (len2N_may x y))
  simp only [fv_dm] at a b
  unfold lenE lenN
  by_cases h1 : len2E x y = 0
  · rw [h1] at a
    rw [if_pos h1, if_pos h1]
    rw [ev_fn T104]; (try simp only [Nat.add_assoc, Nat.reduceAdd] at a b); obtain ⟨call, hcall⟩ : ∃ call, call = evFun T (D + 8) := ⟨_, rfl⟩; rw [← hcall] at a b ⊢; clear hcall; simp (maxSteps := 2000000) [ir104, a, b]
  · have e4 : (len2E x y != 0) = true := by simpa using h1
    rw [if_neg h1, if_neg h1]
    rw [ev_fn T104]; (try simp only [Nat.add_assoc, Nat.reduceAdd] at a b); obtain ⟨call, hcall⟩ : ∃ call, call = evFun T (D + 8) := ⟨_, rfl⟩; rw [← hcall] at a b ⊢; clear hcall; simp (maxSteps := 2000000) [ir104, a, b, e4]
theorem cmp_gt {a b : Int} : decide (0 < cmpI a b) = decide (b < a) := by unfold cmpI; repeat' split <;> simp <;> omega
theorem E_apart (D : Nat) (A B lim : Int) {l x y : Int} (kl : mayI l) (kx : mayI x) (ky : mayI y) : evFun T (D+9) 100 [.agg [.int .i64 A, .int .i64 B, .int .i64 ((l) / 18446744073709551616), .int .u64 ((l) % 18446744073709551616), .int .i64 ((lim) / 18446744073709551616), .int .u64 ((lim) % 18446744073709551616)], .agg [.int .i64 ((x) / 18446744073709551616), .int .u64 ((x) % 18446744073709551616), .int .i64 ((y) / 18446744073709551616), .int .u64 ((y) % 18446744073709551616)]] [] =
    some (.tup [.agg [.int .i64 ((len2N x y) / 18446744073709551616), .int .u64 ((len2N x y) % 18446744073709551616)], .c (.bool (apartIs l x y)), .c (.int .i64 (apartE l x y))], [], []) := by
  have a := E_len2 D (okM_may kx).f (okM_may ky).f
  have b := E_mul (D+4) (okM_may kl).f (okM_may kl).f
  have c := ev_fcmp (D+5) _ _ _ _ (okM_may (len2N_may x y)).f (okM_may (fitN_may (mulI l l))).f
  simp only [fv_dm] at a b c
  unfold apartIs apartE
  by_cases h1 : len2E x y = 0
  · rw [h1] at a
    simp only [h1, if_true]
    by_cases h2 : fitE (mulI l l) = 0
    · rw [h2, fitN_of h2] at b
      rw [fitN_of h2] at c
      rw [h2]
      have c2 := cmp_gt (a := len2N x y) (b := mulI l l)
      generalize cmpI (len2N x y) (mulI l l) = C at *
      generalize len2N x y = n at *
      generalize mulI l l = m at *
      rw [← c2]
      rw [ev_fn T100]; (try simp only [Nat.add_assoc, Nat.reduceAdd] at a b c); obtain ⟨call, hcall⟩ : ∃ call, call = evFun T (D + 8) := ⟨_, rfl⟩; rw [← hcall] at a b c ⊢; clear hcall; simp (maxSteps := 2000000) [ir100, a, b, c]
    · have e4 : (fitE (mulI l l) == 0) = false := by simpa using h2
      have e5 : decide (fitE (mulI l l) = 0) = false := by simpa using h2
      rw [e5]
      rw [ev_fn T100]; (try simp only [Nat.add_assoc, Nat.reduceAdd] at a b); obtain ⟨call, hcall⟩ : ∃ call, call = evFun T (D + 8) := ⟨_, rfl⟩; rw [← hcall] at a b ⊢; clear hcall; simp (maxSteps := 2000000) [ir100, a, b, e4]
  · have e4 : (len2E x y != 0) = true := by simpa using h1
    simp only [h1, if_false, decide_false, Bool.false_and]
    rw [ev_fn T100]; (try simp only [Nat.add_assoc, Nat.reduceAdd] at a); obtain ⟨call, hcall⟩ : ∃ call, call = evFun T (D + 8) := ⟨_, rfl⟩; rw [← hcall] at a ⊢; clear hcall; simp (maxSteps := 2000000) [ir100, a, e4]
theorem E_parting (D : Nat) (a b : Bd) (ka : a.ok) (kb : b.ok) {x y : Int} (kx : mayI x) (ky : mayI y) : evFun T (D+8) 101 [.agg a.row, .agg b.row, .agg [.int .i64 ((x) / 18446744073709551616), .int .u64 ((x) % 18446744073709551616), .int .i64 ((y) / 18446744073709551616), .int .u64 ((y) % 18446744073709551616)]] [] =
    (if wE a b ≠ 0 then some (.tup [.agg [.int .i64 0, .int .u64 0], .c (.int .i64 (wE a b))], [], []) else some (.tup [.agg [.int .i64 ((dotN x y (wX a b) (wY a b)) / 18446744073709551616), .int .u64 ((dotN x y (wX a b) (wY a b)) % 18446744073709551616)], .c (.int .i64 (dotE x y (wX a b) (wY a b)))], [], [])) := by
  have s1 := E_speed (D+1) a ka
  have s2 := E_speed (D+1) b kb
  have s3 := E_vsub D (okM_may (over1_may b.p b.q b.m)) (okM_may (over1_may b.q b.p b.m)) (okM_may (over1_may a.p a.q a.m)) (okM_may (over1_may a.q a.p a.m))
  have s4 := E_dot D (okM_may kx).f (okM_may ky).f (okM_may (may_both (over1 b.p b.q b.m - over1 a.p a.q a.m) (over1 b.q b.p b.m - over1 a.q a.p a.m))).f (okM_may (may_both (over1 b.q b.p b.m - over1 a.q a.p a.m) (over1 b.p b.q b.m - over1 a.p a.q a.m))).f
  simp only [fv_dm] at s3 s4
  unfold wE wX wY
  by_cases h1 : overE a.p a.q a.m = 0
  · simp only [h1, ne_eq, not_true_eq_false, if_false]
    rw [h1] at s1
    by_cases h2 : overE b.p b.q b.m = 0
    · simp only [h2, not_true_eq_false, if_false]
      rw [h2] at s2
      by_cases h3 : bothE (over1 b.p b.q b.m - over1 a.p a.q a.m) (over1 b.q b.p b.m - over1 a.q a.p a.m) = 0
      · rw [if_neg (by simpa using h3)]
        rw [h3] at s3
        simp only [Bd.row] at s1 s2
        rw [ev_fn T101]; (try simp only [Nat.add_assoc, Nat.reduceAdd] at s1 s2 s3 s4); obtain ⟨call, hcall⟩ : ∃ call, call = evFun T (D + 7) := ⟨_, rfl⟩; rw [← hcall] at s1 s2 s3 s4 ⊢; clear hcall; simp (maxSteps := 2000000) [ir101, Bd.row, s1, s2, s3, s4]
      · have e4 : (bothE (over1 b.p b.q b.m - over1 a.p a.q a.m) (over1 b.q b.p b.m - over1 a.q a.p a.m) != 0) = true := by simpa using h3
        rw [if_pos h3]
        simp only [Bd.row] at s1 s2
        rw [ev_fn T101]; (try simp only [Nat.add_assoc, Nat.reduceAdd] at s1 s2 s3); obtain ⟨call, hcall⟩ : ∃ call, call = evFun T (D + 7) := ⟨_, rfl⟩; rw [← hcall] at s1 s2 s3 ⊢; clear hcall; simp (maxSteps := 2000000) [ir101, Bd.row, s1, s2, s3, e4]
    · have e4 : (overE b.p b.q b.m != 0) = true := by simpa using h2
      simp only [h2, not_false_eq_true, if_true]
      simp only [Bd.row] at s1 s2
      rw [ev_fn T101]; (try simp only [Nat.add_assoc, Nat.reduceAdd] at s1 s2); obtain ⟨call, hcall⟩ : ∃ call, call = evFun T (D + 7) := ⟨_, rfl⟩; rw [← hcall] at s1 s2 ⊢; clear hcall; simp (maxSteps := 2000000) [ir101, Bd.row, s1, s2, e4]
  · have e4 : (overE a.p a.q a.m != 0) = true := by simpa using h1
    simp only [h1, ne_eq, not_false_eq_true, if_true]
    simp only [Bd.row] at s1 s2
    rw [ev_fn T101]; (try simp only [Nat.add_assoc, Nat.reduceAdd] at s1); obtain ⟨call, hcall⟩ : ∃ call, call = evFun T (D + 7) := ⟨_, rfl⟩; rw [← hcall] at s1 ⊢; clear hcall; simp (maxSteps := 2000000) [ir101, Bd.row, s1, e4]
theorem massE_zero {a b : Int} (h : massE a b = 0) : divE (mulI a b) (a + b) = 0 := by
  unfold massE at h
  split at h
  · rename_i c; exact absurd h c
  · split at h
    · rename_i c; exact absurd h c
    · exact h
theorem massN_may (a b : Int) : mayI (massN a b) := by
  unfold massN
  by_cases h : massE a b = 0
  · rw [if_pos h]; exact (divE_fit (massE_zero h)).2
  · rw [if_neg h]; unfold mayI; omega
theorem E_mass (D : Nat) (a b : Bd) (ka : mayI a.m) (kb : mayI b.m) : evFun T (D+5) 150 [.agg a.row, .agg b.row] [] = some (.tup [.agg [.int .i64 ((massN a.m b.m) / 18446744073709551616), .int .u64 ((massN a.m b.m) % 18446744073709551616)], .c (.int .i64 (massE a.m b.m))], [], []) := by
  have s1 := E_mul D (okM_may ka).f (okM_may kb).f
  have s2 := E_add D (okM_may ka) (okM_may kb)
  have s3 := E_div D (okM_may (fitN_may (mulI a.m b.m))).f (okM_may (fitN_may (a.m + b.m))).f
  simp only [fv_dm] at s1 s2 s3
  unfold massN massE
  by_cases h1 : fitE (mulI a.m b.m) = 0
  · simp only [h1, ne_eq, not_true_eq_false, if_false]
    rw [h1, fitN_of h1] at s1
    by_cases h2 : fitE (a.m + b.m) = 0
    · simp only [h2, not_true_eq_false, if_false]
      rw [h2, fitN_of h2] at s2
      rw [fitN_of h1, fitN_of h2] at s3
      by_cases h3 : divE (mulI a.m b.m) (a.m + b.m) = 0
      · rw [if_pos h3]
        rw [h3, (divE_fit h3).1] at s3
        rw [h3]
        rw [ev_fn T150]; (try simp only [Nat.add_assoc, Nat.reduceAdd] at s1 s2 s3); obtain ⟨call, hcall⟩ : ∃ call, call = evFun T (D + 4) := ⟨_, rfl⟩; rw [← hcall] at s1 s2 s3 ⊢; clear hcall; simp (maxSteps := 2000000) [ir150, Bd.row, s1, s2, s3]
      · rw [if_neg h3]
        have z : fitN (divI (mulI a.m b.m) (a.m + b.m)) = 0 := by
          unfold divE at h3
          split at h3
          · rename_i c; rw [c, divI_zero]; exact fit_zero.1
          · unfold fitE at h3; unfold fitN; split at h3
            · exact absurd rfl h3
            · rename_i c; rw [if_neg c]
        rw [z] at s3
        rw [ev_fn T150]; (try simp only [Nat.add_assoc, Nat.reduceAdd] at s1 s2 s3); obtain ⟨call, hcall⟩ : ∃ call, call = evFun T (D + 4) := ⟨_, rfl⟩; rw [← hcall] at s1 s2 s3 ⊢; clear hcall; simp (maxSteps := 2000000) [ir150, Bd.row, s1, s2, s3]
    · have e4 : (fitE (a.m + b.m) != 0) = true := by simpa using h2
      have z : fitN (a.m + b.m) = 0 := by
        unfold fitE at h2; unfold fitN; split at h2
        · exact absurd rfl h2
        · rename_i c; rw [if_neg c]
      rw [z] at s2
      simp only [h2, not_false_eq_true, if_true, if_false]
      rw [ev_fn T150]; (try simp only [Nat.add_assoc, Nat.reduceAdd] at s1 s2); obtain ⟨call, hcall⟩ : ∃ call, call = evFun T (D + 4) := ⟨_, rfl⟩; rw [← hcall] at s1 s2 ⊢; clear hcall; simp (maxSteps := 2000000) [ir150, Bd.row, s1, s2, e4]
  · have e4 : (fitE (mulI a.m b.m) != 0) = true := by simpa using h1
    have z : fitN (mulI a.m b.m) = 0 := by
      unfold fitE at h1; unfold fitN; split at h1
      · exact absurd rfl h1
      · rename_i c; rw [if_neg c]
    rw [z] at s1
    simp only [h1, ne_eq, not_false_eq_true, if_true, if_false]
    rw [ev_fn T150]; (try simp only [Nat.add_assoc, Nat.reduceAdd] at s1); obtain ⟨call, hcall⟩ : ∃ call, call = evFun T (D + 4) := ⟨_, rfl⟩; rw [← hcall] at s1 ⊢; clear hcall; simp (maxSteps := 2000000) [ir150, Bd.row, s1, e4]
theorem E_held (D : Nat) (a b : Bd) (ka : mayI a.m) (kb : mayI b.m) {x y far v : Int} (kx : mayI x) (ky : mayI y) (kf : mayI far) (kv : mayI v) : evFun T (D+8) 103 [.agg a.row, .agg b.row, .agg [.int .i64 ((x) / 18446744073709551616), .int .u64 ((x) % 18446744073709551616), .int .i64 ((y) / 18446744073709551616), .int .u64 ((y) % 18446744073709551616)], .agg [.int .i64 ((far) / 18446744073709551616), .int .u64 ((far) % 18446744073709551616)], .agg [.int .i64 ((v) / 18446744073709551616), .int .u64 ((v) % 18446744073709551616)]] [] =
    (if hE a.m b.m v far ≠ 0 then some (.tup [.agg [.int .i64 0, .int .u64 0, .int .i64 0, .int .u64 0], .c (.int .i64 (hE a.m b.m v far))], [], []) else some (.tup [.agg [.int .i64 ((both1 (mulI x (hN a.m b.m v far)) (mulI y (hN a.m b.m v far))) / 18446744073709551616), .int .u64 ((both1 (mulI x (hN a.m b.m v far)) (mulI y (hN a.m b.m v far))) % 18446744073709551616), .int .i64 ((both1 (mulI y (hN a.m b.m v far)) (mulI x (hN a.m b.m v far))) / 18446744073709551616), .int .u64 ((both1 (mulI y (hN a.m b.m v far)) (mulI x (hN a.m b.m v far))) % 18446744073709551616)], .c (.int .i64 (bothE (mulI x (hN a.m b.m v far)) (mulI y (hN a.m b.m v far))))], [], [])) := by
  have s1 := E_mass (D+2) a b ka kb
  have s2 := E_mul (D+3) (okM_may (massN_may a.m b.m)).f (okM_may kv).f
  have s3 := E_div (D+3) (okM_may (fitN_may (mulI (massN a.m b.m) v))).f (okM_may kf).f
  simp only [fv_dm] at s2 s3
  simp only [Bd.row] at s1
  unfold hE hN
  by_cases h1 : massE a.m b.m = 0
  · simp only [h1, ne_eq, not_true_eq_false, if_false]
    rw [h1] at s1
    by_cases h2 : fitE (mulI (massN a.m b.m) v) = 0
    · simp only [h2, not_true_eq_false, if_false]
      rw [h2, fitN_of h2] at s2
      rw [fitN_of h2] at s3
      by_cases h3 : divE (mulI (massN a.m b.m) v) far = 0
      · rw [if_neg (by simpa using h3)]
        rw [h3, (divE_fit h3).1] at s3
        have s4 := E_scale D (okM_may kx).f (okM_may ky).f (okM_may (divE_fit h3).2).f
        simp only [fv_dm] at s4
        rw [ev_fn T103]; (try simp only [Nat.add_assoc, Nat.reduceAdd] at s1 s2 s3 s4); obtain ⟨call, hcall⟩ : ∃ call, call = evFun T (D + 7) := ⟨_, rfl⟩; rw [← hcall] at s1 s2 s3 s4 ⊢; clear hcall; simp (maxSteps := 2000000) [ir103, Bd.row, s1, s2, s3, s4]
      · rw [if_pos h3]
        have e4 : (divE (mulI (massN a.m b.m) v) far != 0) = true := by simpa using h3
        rw [ev_fn T103]; (try simp only [Nat.add_assoc, Nat.reduceAdd] at s1 s2 s3); obtain ⟨call, hcall⟩ : ∃ call, call = evFun T (D + 7) := ⟨_, rfl⟩; rw [← hcall] at s1 s2 s3 ⊢; clear hcall; simp (maxSteps := 2000000) [ir103, Bd.row, s1, s2, s3, e4]
    · have e4 : (fitE (mulI (massN a.m b.m) v) != 0) = true := by simpa using h2
      have e5 : (fitE (mulI (massN a.m b.m) v) == 0) = false := by simpa using h2
      simp only [h2, not_false_eq_true, if_true]
      rw [ev_fn T103]; (try simp only [Nat.add_assoc, Nat.reduceAdd] at s1 s2); obtain ⟨call, hcall⟩ : ∃ call, call = evFun T (D + 7) := ⟨_, rfl⟩; rw [← hcall] at s1 s2 ⊢; clear hcall; simp (maxSteps := 2000000) [ir103, Bd.row, s1, s2, e4, e5]
  · have e4 : (massE a.m b.m != 0) = true := by simpa using h1
    have e5 : (massE a.m b.m == 0) = false := by simpa using h1
    simp only [h1, ne_eq, not_false_eq_true, if_true]
    rw [ev_fn T103]; (try simp only [Nat.add_assoc, Nat.reduceAdd] at s1); obtain ⟨call, hcall⟩ : ∃ call, call = evFun T (D + 7) := ⟨_, rfl⟩; rw [← hcall] at s1 ⊢; clear hcall; simp (maxSteps := 2000000) [ir103, Bd.row, s1, e4, e5]
end Go.Ab

namespace Go.Ab
attribute [local simp] runFn args0 e_skip e_reg regC_some e_seq seqC_n seqC_e seqC_r e_cond condC_t condC_f e_block e_loop e_exit e_ret nextC_n nextC_e nextC_r nextK_n nextK_e nextK_r evReg evOps evOp wants fp St.ev St.get St.set St.sets St.put St.apply St.pre preK inB lk up del hits V.cells V.cellsG allPlain Cell.plain pure1 keysOf okUn noK Ev.apart meets mkV splice fillC binC unC mmC eqCs eqC resVs resV one export1 V.keys V.keys1 outKeys valsKeys cellsKeys Cell.keys Blk.keys elsKeys fpCall fpCallG noTup reach getAll outW newW names srcs capsOf onesOf slB rowsOf V.ren V.ren1 Cell.ren Loc.ren locsRen Blk.ren inR outR place nm St.sweep swept St.kill killR lmap delAll St.trim reachL expR ownGet b2i_le wrap_u64 wrap_i64 bits_u64 bits_i64 or_u64 and_u64 Int.fdiv_eq_ediv_of_nonneg word mmC hits
theorem cmp_le {a b : Int} : decide (cmpI a b ≤ 0) = decide (a ≤ b) := by unfold cmpI; repeat' split <;> simp <;> omega
theorem lenN_may (x y : Int) : mayI (lenN x y) := by
  unfold lenN
  split
  · have := rootI_may (len2N x y) (len2N_may x y).2
    unfold mayI; omega
  · unfold mayI; omega
set_option maxHeartbeats 4000000 in
theorem E_jerk (D : Nat) (A B : Int) {l lim : Int} (a b : Bd) (ka : a.ok) (kb : b.ok) (kl : mayI l) (klim : mayI lim) : evFun T (D+10) 49 [.agg [.int .i64 A, .int .i64 B, .int .i64 ((l) / 18446744073709551616), .int .u64 ((l) % 18446744073709551616), .int .i64 ((lim) / 18446744073709551616), .int .u64 ((lim) % 18446744073709551616)], .agg a.row, .agg b.row] [] =
    some (.tup [.agg [.int .i64 (((jerkS l lim a b).x) / 18446744073709551616), .int .u64 (((jerkS l lim a b).x) % 18446744073709551616), .int .i64 (((jerkS l lim a b).y) / 18446744073709551616), .int .u64 (((jerkS l lim a b).y) % 18446744073709551616)], .c (.bool (jerkS l lim a b).pulls), .c (.bool (jerkS l lim a b).breaks), .c (.int .i64 (jerkS l lim a b).e)], [], []) := by
  have s1 := E_vsub (D+2) (okM_may kb.2.1) (okM_may kb.2.2.1) (okM_may ka.2.1) (okM_may ka.2.2.1)
  simp only [fv_dm] at s1
  unfold jerkS
  by_cases h1 : bothE (b.x - a.x) (b.y - a.y) = 0
  · rw [if_neg (by simpa using h1)]
    obtain ⟨fx, fy⟩ := bothE_zero.1 h1
    have ex : both1 (b.x - a.x) (b.y - a.y) = b.x - a.x := by unfold both1; rw [if_pos ⟨fx, fy⟩]
    have ey : both1 (b.y - a.y) (b.x - a.x) = b.y - a.y := by unfold both1; rw [if_pos ⟨fy, fx⟩]
    rw [h1, ex, ey] at s1
    have kx : mayI (b.x - a.x) := fitE_iff.1 fx
    have ky : mayI (b.y - a.y) := fitE_iff.1 fy
    generalize b.x - a.x = x at *
    generalize b.y - a.y = y at *
    have s2 := E_apart D A B lim kl kx ky
    by_cases h2 : apartE l x y = 0
    · simp only [h2, ne_eq, not_true_eq_false, if_false]
      rw [h2] at s2
      by_cases h3 : apartIs l x y = false
      · rw [if_pos h3]
        rw [h3] at s2
        rw [ev_fn T49]; (try simp only [Nat.add_assoc, Nat.reduceAdd] at s1 s2); obtain ⟨call, hcall⟩ : ∃ call, call = evFun T (D + 9) := ⟨_, rfl⟩; rw [← hcall] at s1 s2 ⊢; clear hcall; simp (maxSteps := 2000000) [ir49, Bd.row, s1, s2]
      · rw [if_neg h3]
        rw [Bool.not_eq_false] at h3
        rw [h3] at s2
        have s3 := E_parting (D+1) a b ka kb kx ky
        by_cases h4 : wE a b = 0
        · simp only [h4, ne_eq, not_true_eq_false, if_false]
          rw [if_neg (by simpa using h4)] at s3
          have kv := dotN_may x y (wX a b) (wY a b)
          by_cases h5 : dotE x y (wX a b) (wY a b) = 0
          · simp only [h5, not_true_eq_false, if_false]
            rw [h5] at s3
            have s4 := ev_fcmp (D+6) _ _ 0 0 (okM_may kv).f okM_z.f
            rw [fv_dm, show fv 0 0 = 0 from rfl] at s4
            have c4 := cmp_le (a := dotN x y (wX a b) (wY a b)) (b := 0)
            have s5 := E_held (D+1) a b ka.1 kb.1 kx ky (len2N_may x y) kv
            generalize dotN x y (wX a b) (wY a b) = v at *
            by_cases h6 : v ≤ 0
            · rw [if_pos h6]
              rw [decide_eq_true h6] at c4
              generalize cmpI v 0 = C at *
              simp only [Bd.row] at s3
              rw [ev_fn T49]; (try simp only [Nat.add_assoc, Nat.reduceAdd] at s1 s2 s3 s4); obtain ⟨call, hcall⟩ : ∃ call, call = evFun T (D + 9) := ⟨_, rfl⟩; rw [← hcall] at s1 s2 s3 s4 ⊢; clear hcall; simp (maxSteps := 2000000) [ir49, Bd.row, s1, s2, s3, s4, c4]
            · rw [if_neg h6]
              rw [decide_eq_false h6] at c4
              by_cases h7 : hE a.m b.m v (len2N x y) = 0
              · simp only [h7, not_true_eq_false, if_false]
                rw [if_neg (by simpa using h7)] at s5
                generalize hN a.m b.m v (len2N x y) = k at *
                by_cases h8 : bothE (mulI x k) (mulI y k) = 0
                · simp only [h8, not_true_eq_false, if_false]
                  obtain ⟨gx, gy⟩ := bothE_zero.1 h8
                  have e1 : both1 (mulI x k) (mulI y k) = mulI x k := by unfold both1; rw [if_pos ⟨gx, gy⟩]
                  have e2 : both1 (mulI y k) (mulI x k) = mulI y k := by unfold both1; rw [if_pos ⟨gy, gx⟩]
                  rw [h8, e1, e2] at s5
                  have s6 := E_vlen D (fitE_iff.1 gx) (fitE_iff.1 gy)
                  have s7 := ev_fcmp (D+6) _ _ _ _ (okM_may (lenN_may (mulI x k) (mulI y k))).f (okM_may klim).f
                  simp only [fv_dm] at s7
                  have c7 := cmp_gt (a := lenN (mulI x k) (mulI y k)) (b := lim)
                  clear e1 e2
                  generalize mulI x k = X at *
                  generalize mulI y k = Y at *
                  by_cases h9 : lenE X Y = 0
                  · simp only [h9, not_true_eq_false, if_false]
                    rw [h9] at s6
                    simp only [Bd.row] at s3 s5
                    by_cases h10 : lim < lenN X Y
                    · rw [if_pos h10]
                      rw [decide_eq_true h10] at c7
                      generalize cmpI v 0 = C at *
                      generalize cmpI (lenN X Y) lim = C' at *
                      rw [ev_fn T49]; (try simp only [Nat.add_assoc, Nat.reduceAdd] at s1 s2 s3 s4 s5 s6 s7); obtain ⟨call, hcall⟩ : ∃ call, call = evFun T (D + 9) := ⟨_, rfl⟩; rw [← hcall] at s1 s2 s3 s4 s5 s6 s7 ⊢; clear hcall; simp (maxSteps := 2000000) [ir49, Bd.row, s1, s2, s3, s4, s5, s6, s7, c4, c7]
                    · rw [if_neg h10]
                      rw [decide_eq_false h10] at c7
                      generalize cmpI v 0 = C at *
                      generalize cmpI (lenN X Y) lim = C' at *
                      rw [ev_fn T49]; (try simp only [Nat.add_assoc, Nat.reduceAdd] at s1 s2 s3 s4 s5 s6 s7); obtain ⟨call, hcall⟩ : ∃ call, call = evFun T (D + 9) := ⟨_, rfl⟩; rw [← hcall] at s1 s2 s3 s4 s5 s6 s7 ⊢; clear hcall; simp (maxSteps := 2000000) [ir49, Bd.row, s1, s2, s3, s4, s5, s6, s7, c4, c7]
                  · have e4 : (lenE X Y != 0) = true := by simpa using h9
                    simp only [h9, not_false_eq_true, if_true]
                    generalize cmpI v 0 = C at *
                    simp only [Bd.row] at s3 s5
                    rw [ev_fn T49]; (try simp only [Nat.add_assoc, Nat.reduceAdd] at s1 s2 s3 s4 s5 s6); obtain ⟨call, hcall⟩ : ∃ call, call = evFun T (D + 9) := ⟨_, rfl⟩; rw [← hcall] at s1 s2 s3 s4 s5 s6 ⊢; clear hcall; simp (maxSteps := 2000000) [ir49, Bd.row, s1, s2, s3, s4, s5, s6, c4, e4]
                · have e4 : (bothE (mulI x k) (mulI y k) != 0) = true := by simpa using h8
                  simp only [h8, not_false_eq_true, if_true]
                  generalize cmpI v 0 = C at *
                  simp only [Bd.row] at s3 s5
                  rw [ev_fn T49]; (try simp only [Nat.add_assoc, Nat.reduceAdd] at s1 s2 s3 s4 s5); obtain ⟨call, hcall⟩ : ∃ call, call = evFun T (D + 9) := ⟨_, rfl⟩; rw [← hcall] at s1 s2 s3 s4 s5 ⊢; clear hcall; simp (maxSteps := 2000000) [ir49, Bd.row, s1, s2, s3, s4, s5, c4, e4]
              · have e4 : (hE a.m b.m v (len2N x y) != 0) = true := by simpa using h7
                simp only [h7, not_false_eq_true, if_true]
                rw [if_pos h7] at s5
                generalize cmpI v 0 = C at *
                simp only [Bd.row] at s3 s5
                rw [ev_fn T49]; (try simp only [Nat.add_assoc, Nat.reduceAdd] at s1 s2 s3 s4 s5); obtain ⟨call, hcall⟩ : ∃ call, call = evFun T (D + 9) := ⟨_, rfl⟩; rw [← hcall] at s1 s2 s3 s4 s5 ⊢; clear hcall; simp (maxSteps := 2000000) [ir49, Bd.row, s1, s2, s3, s4, s5, c4, e4]
          · have e4 : (dotE x y (wX a b) (wY a b) != 0) = true := by simpa using h5
            simp only [h5, not_false_eq_true, if_true]
            simp only [Bd.row] at s3
            rw [ev_fn T49]; (try simp only [Nat.add_assoc, Nat.reduceAdd] at s1 s2 s3); obtain ⟨call, hcall⟩ : ∃ call, call = evFun T (D + 9) := ⟨_, rfl⟩; rw [← hcall] at s1 s2 s3 ⊢; clear hcall; simp (maxSteps := 2000000) [ir49, Bd.row, s1, s2, s3, e4]
        · have e4 : (wE a b != 0) = true := by simpa using h4
          simp only [h4, ne_eq, not_false_eq_true, if_true]
          rw [if_pos h4] at s3
          simp only [Bd.row] at s3
          rw [ev_fn T49]; (try simp only [Nat.add_assoc, Nat.reduceAdd] at s1 s2 s3); obtain ⟨call, hcall⟩ : ∃ call, call = evFun T (D + 9) := ⟨_, rfl⟩; rw [← hcall] at s1 s2 s3 ⊢; clear hcall; simp (maxSteps := 2000000) [ir49, Bd.row, s1, s2, s3, e4]
    · have e4 : (apartE l x y != 0) = true := by simpa using h2
      simp only [h2, ne_eq, not_false_eq_true, if_true]
      rw [ev_fn T49]; (try simp only [Nat.add_assoc, Nat.reduceAdd] at s1 s2); obtain ⟨call, hcall⟩ : ∃ call, call = evFun T (D + 9) := ⟨_, rfl⟩; rw [← hcall] at s1 s2 ⊢; clear hcall; simp (maxSteps := 2000000) [ir49, Bd.row, s1, s2, e4]
  · have e4 : (bothE (b.x - a.x) (b.y - a.y) != 0) = true := by simpa using h1
    rw [if_pos h1]
    rw [ev_fn T49]; (try simp only [Nat.add_assoc, Nat.reduceAdd] at s1); obtain ⟨call, hcall⟩ : ∃ call, call = evFun T (D + 9) := ⟨_, rfl⟩; rw [← hcall] at s1 ⊢; clear hcall; simp (maxSteps := 2000000) [ir49, Bd.row, s1, e4]
end Go.Ab

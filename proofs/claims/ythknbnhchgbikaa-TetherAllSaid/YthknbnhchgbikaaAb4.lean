/- Words for this claim: an evaluator of the program's functions, and what they come to. -/
import Derived.Test.YthknbnhchgbikaaAb3
set_option linter.all false
namespace Go.Ab
def mayI (x : Int) : Prop := -170141183460469231731687303715884105728 < x ∧ x < 170141183460469231731687303715884105728
theorem okM_may {x : Int} (h : mayI x) : okM (x / 18446744073709551616) (x % 18446744073709551616) := okM_of h
theorem may_both (x y : Int) : mayI (both1 x y) := both1_may x y
/-- A body, in numbers. -/
structure Bd where
  m : Int
  r : Int
  x : Int
  y : Int
  p : Int
  q : Int
  f : Int
  a : Int
  e : Int
  th : Int
  hd : Int
def Bd.row (b : Bd) : List Cell := [.int .i64 (b.m / 18446744073709551616), .int .u64 (b.m % 18446744073709551616), .int .i64 (b.r / 18446744073709551616), .int .u64 (b.r % 18446744073709551616), .int .i64 (b.x / 18446744073709551616), .int .u64 (b.x % 18446744073709551616), .int .i64 (b.y / 18446744073709551616), .int .u64 (b.y % 18446744073709551616),
  .int .i64 (b.p / 18446744073709551616), .int .u64 (b.p % 18446744073709551616), .int .i64 (b.q / 18446744073709551616), .int .u64 (b.q % 18446744073709551616), .int .i64 (b.f / 18446744073709551616), .int .u64 (b.f % 18446744073709551616), .int .i64 (b.a / 18446744073709551616), .int .u64 (b.a % 18446744073709551616), .int .i64 (b.e / 18446744073709551616), .int .u64 (b.e % 18446744073709551616), .int .i64 b.th, .int .i64 b.hd]
def Bd.ok (b : Bd) : Prop := mayI b.m ∧ mayI b.x ∧ mayI b.y ∧ mayI b.p ∧ mayI b.q
/-- A momentum. -/
abbrev Mo := Int × Int
def Mo.row (v : Mo) : List Cell := [.int .i64 (v.1 / 18446744073709551616), .int .u64 (v.1 % 18446744073709551616), .int .i64 (v.2 / 18446744073709551616), .int .u64 (v.2 % 18446744073709551616)]
def Mo.ok (v : Mo) : Prop := mayI v.1 ∧ mayI v.2
/-- A world's numbers. -/
structure Wn where
  tk : Int
  h : Int
  g : Int
  eps : Int
  th : Int
  bo : Int
  gr : Int
  st : Int
  xm : Int
  xp : Int
  xq : Int
def Wn.cells (w : Wn) (cb ct cr ca ce : Cell) : List Cell := [.int .i64 w.tk, .int .i64 (w.h / 18446744073709551616), .int .u64 (w.h % 18446744073709551616), .int .i64 (w.g / 18446744073709551616), .int .u64 (w.g % 18446744073709551616), .int .i64 (w.eps / 18446744073709551616), .int .u64 (w.eps % 18446744073709551616), .int .i64 (w.th / 18446744073709551616), .int .u64 (w.th % 18446744073709551616), .int .i64 (w.bo / 18446744073709551616), .int .u64 (w.bo % 18446744073709551616), .int .i64 w.gr, .int .i64 w.st, cb, ct, cr, ca,
  .int .i64 (w.xm / 18446744073709551616), .int .u64 (w.xm % 18446744073709551616), .int .i64 (w.xp / 18446744073709551616), .int .u64 (w.xp % 18446744073709551616), .int .i64 (w.xq / 18446744073709551616), .int .u64 (w.xq % 18446744073709551616), ce]
structure Pd where
  p : Mo
  q : Mo
  e : Int
/-- Two momenta behind their pull. -/
def pulledS (g eps h : Int) (a b : Bd) (p q : Mo) : Pd :=
  if bothE (b.x - a.x) (b.y - a.y) ≠ 0 then ⟨p, q, bothE (b.x - a.x) (b.y - a.y)⟩ else
  let kE := pullE g a.m b.m (both1 (b.x - a.x) (b.y - a.y)) (both1 (b.y - a.y) (b.x - a.x)) eps h
  let kx := pullX g a.m b.m (both1 (b.x - a.x) (b.y - a.y)) (both1 (b.y - a.y) (b.x - a.x)) eps h
  let ky := pullY g a.m b.m (both1 (b.x - a.x) (b.y - a.y)) (both1 (b.y - a.y) (b.x - a.x)) eps h
  if kE ≠ 0 then ⟨p, q, kE⟩ else
  if bothE (p.1 + kx) (p.2 + ky) ≠ 0 then ⟨(both1 (p.1 + kx) (p.2 + ky), both1 (p.2 + ky) (p.1 + kx)), q, bothE (p.1 + kx) (p.2 + ky)⟩ else
  ⟨(both1 (p.1 + kx) (p.2 + ky), both1 (p.2 + ky) (p.1 + kx)), (both1 (q.1 - kx) (q.2 - ky), both1 (q.2 - ky) (q.1 - kx)), bothE (q.1 - kx) (q.2 - ky)⟩
end Go.Ab

namespace Go.Ab
def b0 : Bd := ⟨0, 0, 0, 0, 0, 0, 0, 0, 0, 0, 0⟩
/-- One body and those behind it: an error, or all momenta. -/
def kIn (g eps h : Int) (bs : List Bd) (i : Nat) : Nat → Nat → List Mo → Int × List Mo
  | 0, _, ps => (0, ps)
  | n + 1, j, ps =>
    let r := pulledS g eps h (bs.getD i b0) (bs.getD j b0) (ps.getD i (0, 0)) (ps.getD j (0, 0))
    if r.e = 0 then kIn g eps h bs i n (j + 1) ((ps.set i r.p).set j r.q) else (r.e, ps)
def kOut (g eps h : Int) (bs : List Bd) : Nat → Nat → List Mo → Int × List Mo
  | 0, _, ps => (0, ps)
  | n + 1, i, ps =>
    let r := kIn g eps h bs i (bs.length - (i + 1)) (i + 1) ps
    if r.1 = 0 then kOut g eps h bs n (i + 1) r.2 else r
def moms (bs : List Bd) : List Mo := bs.map fun b => (b.p, b.q)
/-- All momenta behind a time, or the error. -/
def kickS (g eps h : Int) (bs : List Bd) : Int × List Mo := kOut g eps h bs bs.length 0 (moms bs)
theorem pulledS_ok (g eps h : Int) (a b : Bd) (p q : Mo) (he : (pulledS g eps h a b p q).e = 0) : (pulledS g eps h a b p q).p.ok ∧ (pulledS g eps h a b p q).q.ok := by
  unfold pulledS at he ⊢
  split at he
  · rename_i c; exact absurd he c
  · rename_i c
    rw [if_neg c]
    simp only at he ⊢
    split at he
    · rename_i c2; exact absurd he c2
    · rename_i c2
      rw [if_neg c2]
      split at he
      · rename_i c3; exact absurd he c3
      · rename_i c3
        rw [if_neg c3]
        exact ⟨⟨may_both _ _, may_both _ _⟩, ⟨may_both _ _, may_both _ _⟩⟩
end Go.Ab

namespace Go.Ab
def bodyS (a b c d : Int) : Bd := ⟨fv (1 + c % 9) 0, fv (d % 3) 4611686018427387904, fv (a - 128) (b * 72057594037927936), fv (b - 128) (c * 1099511627776), fv (d % 7 - 3) a, fv (c % 5 - 2) (d * 1152921504606846976 % 18446744073709551616), d * 1125899906842624, a * 1125899906842624, fv (b % 4) 0, 0, d * 257⟩
def byteI (n : Int) : Prop := 0 ≤ n ∧ n ≤ 255
theorem bodyS_row (a b c d : Int) (ha : byteI a) (hb : byteI b) (hc : byteI c) (hd : byteI d) : (bodyS a b c d).row = [.int .i64 (1 + c % 9), .int .u64 0, .int .i64 (d % 3), .int .u64 4611686018427387904, .int .i64 (a - 128), .int .u64 (b * 72057594037927936), .int .i64 (b - 128), .int .u64 (c * 1099511627776),
    .int .i64 (d % 7 - 3), .int .u64 a, .int .i64 (c % 5 - 2), .int .u64 (d * 1152921504606846976 % 18446744073709551616), .int .i64 0, .int .u64 (d * 1125899906842624), .int .i64 0, .int .u64 (a * 1125899906842624), .int .i64 (b % 4), .int .u64 0, .int .i64 0, .int .i64 (d * 257)] := by
  unfold byteI at *
  simp only [Bd.row, bodyS, fv, List.cons.injEq, Cell.int.injEq, true_and, and_true]
  refine ⟨by omega, by omega, by omega, by omega, by omega, by omega, by omega, by omega, by omega, by omega, by omega, by omega, by omega, by omega, by omega, by omega, by omega, by omega⟩
theorem bodyS_ok (a b c d : Int) (ha : byteI a) (hb : byteI b) (hc : byteI c) (hd : byteI d) : (bodyS a b c d).ok := by
  unfold byteI at *
  unfold Bd.ok mayI bodyS fv
  simp only
  refine ⟨by omega, by omega, by omega, by omega, by omega⟩
def bodyAt (ns : List Int) (k : Nat) : Bd := bodyS (ns.getD (4 * k) 0) (ns.getD (4 * k + 1) 0) (ns.getD (4 * k + 2) 0) (ns.getD (4 * k + 3) 0)
def bodiesS (ns : List Int) (most : Nat) : List Bd := (List.range (min (ns.length / 4) most)).map (bodyAt ns)
theorem bodiesS_len (ns : List Int) (most : Nat) : (bodiesS ns most).length = min (ns.length / 4) most := by simp [bodiesS]
theorem getD_byte {ns : List Int} (h : ∀ n ∈ ns, byteI n) (k : Nat) : byteI (ns.getD k 0) := by
  simp only [List.getD]
  cases q : ns[k]? with
  | none => simp [byteI]
  | some n => simpa using h n (List.mem_of_getElem? q)
theorem bodiesS_ok {ns : List Int} (h : ∀ n ∈ ns, byteI n) (most : Nat) : ∀ b ∈ bodiesS ns most, b.ok := fun b hb => by
  simp only [bodiesS, List.mem_map] at hb
  obtain ⟨k, _, rfl⟩ := hb
  exact bodyS_ok _ _ _ _ (getD_byte h _) (getD_byte h _) (getD_byte h _) (getD_byte h _)
/-- A world by a number. -/
def worldS (how : Int) : Wn := ⟨0, 1152921504606846976, fv (1 + how % 3) 0, 4611686018427387904, how * 72057594037927936, how % 4 * 4611686018427387904, how / 4 % 2, how / 8 % 2, 0, 0, 0⟩
theorem worldS_g (how : Int) : mayI (worldS how).g ∧ mayI (worldS how).eps := by unfold mayI worldS fv; simp only; omega
end Go.Ab

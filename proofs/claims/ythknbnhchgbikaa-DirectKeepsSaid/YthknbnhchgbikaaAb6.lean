/- Words for this claim: an evaluator of the program's functions, and what they come to. -/
import Derived.Test.YthknbnhchgbikaaAb3
import Derived.Test.YthknbnhchgbikaaAb4
set_option linter.all false
namespace Go.Ab
theorem signI_not (t : Bool) (n : Int) : signI (!t) n = - signI t n := by cases t <;> simp [signI]
theorem lt_neg {a : Int} (h : a ≠ 0) : decide (-a < 0) = !decide (a < 0) := by
  by_cases q : a < 0
  · have t : ¬ (-a < 0) := by omega
    rw [decide_eq_true q, decide_eq_false t]; rfl
  · have t : -a < 0 := by omega
    rw [decide_eq_false q, decide_eq_true t]; rfl
theorem beq_not_right (s t : Bool) : (s == !t) = !(s == t) := by cases s <;> cases t <;> rfl
theorem beq_not_left (s t : Bool) : ((!s) == t) = !(s == t) := by cases s <;> cases t <;> rfl
theorem mulI_neg (a b : Int) : mulI a (-b) = - mulI a b := by
  by_cases q : b = 0
  · subst q
    rw [Int.neg_zero, mulI_zero, Int.neg_zero]
  · unfold mulI
    rw [absI_neg, lt_neg q, beq_not_right, signI_not]
theorem divI_neg (a b : Int) : divI (-a) b = - divI a b := by
  by_cases q : a = 0
  · subst q
    rw [Int.neg_zero, zero_divI, Int.neg_zero]
  · unfold divI
    rw [absI_neg, lt_neg q, beq_not_left, signI_not]
theorem mulI_abs (a b : Int) : absI (mulI a b) = (absI a * absI b + 9223372036854775808) / 18446744073709551616 := by
  unfold mulI
  refine absI_sign _ (div_nonneg' ?_ (by omega))
  have := Int.mul_nonneg (absI_nonneg a) (absI_nonneg b)
  omega
theorem mulI_bd {a b A B : Int} (ha : absI a ≤ A) (hb : absI b ≤ B * 18446744073709551616) : absI (mulI a b) ≤ A * B := by
  rw [mulI_abs]
  have h1 : absI a * absI b ≤ A * (B * 18446744073709551616) := Int.mul_le_mul ha hb (absI_nonneg b) (by have := absI_nonneg a; omega)
  rw [← Int.mul_assoc] at h1
  generalize A * B = C at *
  omega
theorem divI_abs (a b : Int) : absI (divI a b) = (absI a * 36893488147419103232 + absI b) / (2 * absI b) := by
  unfold divI
  refine absI_sign _ (div_nonneg' ?_ ?_)
  · have := absI_nonneg a
    have := absI_nonneg b
    omega
  · have := absI_nonneg b
    omega
theorem divI_bd {a b L Q : Int} (hL : 0 < L) (hb : L ≤ absI b) (hQ : 0 ≤ Q) (ha : absI a * 18446744073709551616 ≤ Q * L) : absI (divI a b) ≤ Q := by
  rw [divI_abs]
  have h0 : 0 < 2 * absI b := by omega
  apply Int.le_of_lt_add_one
  rw [Int.ediv_lt_iff_lt_mul h0]
  have h1 : Q * L ≤ Q * absI b := Int.mul_le_mul_of_nonneg_left hb hQ
  have e : (Q + 1) * (2 * absI b) = 2 * (Q * absI b) + 2 * absI b := by
    rw [Int.add_mul, Int.one_mul, ← Int.mul_assoc, Int.mul_comm Q 2, Int.mul_assoc]
  rw [e]
  generalize Q * absI b = X at *
  generalize Q * L = Y at *
  omega
structure Small (g a b x y eps h : Int) : Prop where
  g : absI g ≤ 55340232221128654848
  a : absI a ≤ 166020696663385964544
  b : absI b ≤ 166020696663385964544
  x : absI x ≤ 4722366482869645213696
  y : absI y ≤ 4722366482869645213696
  eps : eps = 4611686018427387904
  h : absI h ≤ 18446744073709551616
theorem fit_abs {x m : Int} (h : absI x ≤ m) (hm : m < 170141183460469231731687303715884105728) : fitE x = 0 := by
  have := of_absI_lt (a := x) (m := 170141183460469231731687303715884105728) (by omega)
  exact fit_of this.1 this.2
theorem Small.neg {g a b x y eps h : Int} (s : Small g a b x y eps h) : Small g a b x y eps (-h) := ⟨s.g, s.a, s.b, s.x, s.y, s.eps, by rw [absI_neg]; exact s.h⟩
theorem absI_nn {x m : Int} (h0 : 0 ≤ x) (h : absI x ≤ m) : x ≤ m := by rw [absI_of h0] at h; exact h
theorem mulI_sq (x : Int) : 0 ≤ mulI x x := by
  unfold mulI
  have e : (!(decide (x < 0) == decide (x < 0))) = false := by simp
  rw [e]
  show 0 ≤ (absI x * absI x + 9223372036854775808) / 18446744073709551616
  have := Int.mul_nonneg (absI_nonneg x) (absI_nonneg x)
  exact div_nonneg' (by omega) (by omega)
theorem pull_small {g a b x y eps h : Int} (s : Small g a b x y eps h) :
    pullE g a b x y eps h = 0 ∧ pullX g a b x y eps h = mulI x (kI g a b x y eps h) ∧ pullY g a b x y eps h = mulI y (kI g a b x y eps h) ∧ absI (mulI x (kI g a b x y eps h)) ≤ 73442243553550769070571520 ∧ absI (mulI y (kI g a b x y eps h)) ≤ 73442243553550769070571520 := by
  obtain ⟨hg, ha, hb, hx, hy, rfl, hh⟩ := s
  have bx := mulI_bd (B := 256) hx (by omega : absI x ≤ 256 * 18446744073709551616)
  have bY := mulI_bd (B := 256) hy (by omega : absI y ≤ 256 * 18446744073709551616)
  have nx := mulI_sq x
  have ny := mulI_sq y
  have bx' := absI_nn nx bx
  have by' := absI_nn ny bY
  have ee : mulI 4611686018427387904 4611686018427387904 = 1152921504606846976 := by decide
  have er : r2I x y 4611686018427387904 = mulI x x + mulI y y + 1152921504606846976 := by unfold r2I; rw [ee]
  have r1 : 1152921504606846976 ≤ r2I x y 4611686018427387904 := by rw [er]; omega
  have r2 : r2I x y 4611686018427387904 < 170141183460469231731687303715884105728 := by rw [er]; omega
  have m1 := mulI_bd (B := 9) ha (by omega : absI b ≤ 9 * 18446744073709551616)
  have m2 := mulI_bd (B := 81) hg (by omega : absI (mulI a b) ≤ 81 * 18446744073709551616)
  have m3 : absI (forceI g a b h) ≤ 55340232221128654848 * 81 * 1 := mulI_bd (B := 1) m2 (by omega)
  have d1 : absI (divI (forceI g a b h) (r2I x y 4611686018427387904)) ≤ 71720940958582736683008 := divI_bd (L := 1152921504606846976) (by omega) (by rw [absI_of (by omega)]; exact r1) (by omega) (by omega)
  have hr := rootI_pos (r := r2I x y 4611686018427387904) (by omega) r2
  have sq := sqrtI_spec (r2I x y 4611686018427387904 * 18446744073709551616) (by omega) (by omega)
  have r3 : 4611686018427387904 ≤ rootI (r2I x y 4611686018427387904) := by
    rw [hr.1]
    generalize sqrtI (r2I x y 4611686018427387904 * 18446744073709551616) = z at *
    apply Int.le_of_lt_add_one
    apply Int.lt_of_not_ge
    intro q
    have : (z + 1) * (z + 1) ≤ 4611686018427387904 * 4611686018427387904 := Int.mul_le_mul q q (by omega) (by omega)
    omega
  have d2 : absI (kI g a b x y 4611686018427387904 h) ≤ 286883763834330946732032 := divI_bd (L := 4611686018427387904) (by omega) (by rw [absI_of (by omega)]; exact r3) (by omega) (by omega)
  have k1 := mulI_bd (B := 15552) hx (by omega : absI (kI g a b x y 4611686018427387904 h) ≤ 15552 * 18446744073709551616)
  have k2 := mulI_bd (B := 15552) hy (by omega : absI (kI g a b x y 4611686018427387904 h) ≤ 15552 * 18446744073709551616)
  have pv := pull_val (g := g) (a := a) (b := b) (x := x) (y := y) (eps := 4611686018427387904) (h := h) (fit_abs bx (by omega)) (fit_abs bY (by omega)) (fit_nn (by omega) (by omega)) (by rw [ee]; exact fit_nn (by omega) (by omega)) (fit_nn (by omega) (by omega)) (by omega)
    (fit_abs m1 (by omega)) (fit_abs m2 (by omega)) (fit_abs m3 (by omega)) (fit_abs d1 (by omega)) (fit_abs d2 (by omega)) (fit_abs k1 (by omega)) (fit_abs k2 (by omega))
  exact ⟨pv.1, pv.2.1, pv.2.2, by omega, by omega⟩
theorem kI_neg (g a b x y eps h : Int) : kI g a b x y eps (-h) = - kI g a b x y eps h := by
  unfold kI forceI
  rw [mulI_neg, divI_neg, divI_neg]
/-- With the time turned about the pull is turned about. -/
theorem pull_neg {g a b x y eps h : Int} (s : Small g a b x y eps h) : pullX g a b x y eps (-h) = - pullX g a b x y eps h ∧ pullY g a b x y eps (-h) = - pullY g a b x y eps h := by
  have p := pull_small s
  have n := pull_small s.neg
  rw [n.2.1, n.2.2.1, p.2.1, p.2.2.1, kI_neg, mulI_neg, mulI_neg]
  exact ⟨rfl, rfl⟩
end Go.Ab

namespace Go.Ab
theorem body_small {a b c d : Int} (ha : byteI a) (hb : byteI b) (hc : byteI c) (hd : byteI d) :
    absI (bodyS a b c d).m ≤ 166020696663385964544 ∧ absI (bodyS a b c d).x ≤ 2361183241434822606848 ∧ absI (bodyS a b c d).y ≤ 2361183241434822606848 ∧ absI (bodyS a b c d).p ≤ 73786976294838206464 ∧ absI (bodyS a b c d).q ≤ 73786976294838206464 := by
  unfold byteI at *
  unfold bodyS fv
  simp only
  refine ⟨absI_le (by omega), absI_le (by omega), absI_le (by omega), absI_le (by omega), absI_le (by omega)⟩
def Bd.small (b : Bd) : Prop := absI b.m ≤ 166020696663385964544 ∧ absI b.x ≤ 2361183241434822606848 ∧ absI b.y ≤ 2361183241434822606848
def Mo.small (v : Mo) (m : Int) : Prop := absI v.1 ≤ m ∧ absI v.2 ≤ m
theorem absI_add {x y m n : Int} (h : absI x ≤ m) (k : absI y ≤ n) : absI (x + y) ≤ m + n := by unfold absI at *; split at h <;> split at k <;> split <;> omega
theorem absI_sub {x y m n : Int} (h : absI x ≤ m) (k : absI y ≤ n) : absI (x - y) ≤ m + n := by unfold absI at *; split at h <;> split at k <;> split <;> omega
theorem worldS_small (how : Int) : absI (worldS how).g ≤ 55340232221128654848 ∧ (worldS how).eps = 4611686018427387904 := by
  refine ⟨?_, rfl⟩
  unfold worldS fv
  simp only
  exact absI_le (by omega)
theorem both1_fit {x y : Int} (h : fitE x = 0) (k : fitE y = 0) : both1 x y = x := by unfold both1; rw [if_pos ⟨h, k⟩]
/-- The distance of two small bodies. -/
theorem small_dist {a b : Bd} (ha : a.small) (hb : b.small) : bothE (b.x - a.x) (b.y - a.y) = 0 ∧ both1 (b.x - a.x) (b.y - a.y) = b.x - a.x ∧ both1 (b.y - a.y) (b.x - a.x) = b.y - a.y := by
  have dx := absI_sub hb.2.1 ha.2.1
  have dy := absI_sub hb.2.2 ha.2.2
  have fx : fitE (b.x - a.x) = 0 := fit_abs dx (by omega)
  have fy : fitE (b.y - a.y) = 0 := fit_abs dy (by omega)
  exact ⟨bothE_zero.2 ⟨fx, fy⟩, both1_fit fx fy, both1_fit fy fx⟩
theorem small_all {g eps h : Int} {a b : Bd} (hg : absI g ≤ 55340232221128654848) (he : eps = 4611686018427387904) (hh : absI h ≤ 18446744073709551616) (ha : a.small) (hb : b.small) : Small g a.m b.m (b.x - a.x) (b.y - a.y) eps h :=
  ⟨hg, ha.1, hb.1, absI_sub hb.2.1 ha.2.1, absI_sub hb.2.2 ha.2.2, he, hh⟩
/-- A small pull. -/
theorem pulledS_small {g eps h : Int} {a b : Bd} {p q : Mo} {m : Int} (hg : absI g ≤ 55340232221128654848) (he : eps = 4611686018427387904) (hh : absI h ≤ 18446744073709551616) (ha : a.small) (hb : b.small) (hp : p.small m) (hq : q.small m) (hm : m ≤ 1267650600228229401496703205376) :
    (pulledS g eps h a b p q).e = 0 ∧ pullE g a.m b.m (b.x - a.x) (b.y - a.y) eps h = 0 ∧ absI (pullX g a.m b.m (b.x - a.x) (b.y - a.y) eps h) ≤ 73442243553550769070571520 ∧ absI (pullY g a.m b.m (b.x - a.x) (b.y - a.y) eps h) ≤ 73442243553550769070571520 ∧
    (pulledS g eps h a b p q).p = (p.1 + pullX g a.m b.m (b.x - a.x) (b.y - a.y) eps h, p.2 + pullY g a.m b.m (b.x - a.x) (b.y - a.y) eps h) ∧
    (pulledS g eps h a b p q).q = (q.1 - pullX g a.m b.m (b.x - a.x) (b.y - a.y) eps h, q.2 - pullY g a.m b.m (b.x - a.x) (b.y - a.y) eps h) := by
  have ps := pull_small (small_all hg he hh ha hb)
  obtain ⟨d1, d2, d3⟩ := small_dist ha hb
  obtain ⟨p1, p2, p3, p4, p5⟩ := ps
  rw [← p2] at p4
  rw [← p3] at p5
  unfold pulledS
  rw [d1, d2, d3, p1]
  simp only [ne_eq, not_true_eq_false, if_false]
  generalize pullX g a.m b.m (b.x - a.x) (b.y - a.y) eps h = X at *
  generalize pullY g a.m b.m (b.x - a.x) (b.y - a.y) eps h = Y at *
  have f1 : fitE (p.1 + X) = 0 := fit_abs (absI_add hp.1 p4) (by omega)
  have f2 : fitE (p.2 + Y) = 0 := fit_abs (absI_add hp.2 p5) (by omega)
  have f3 : fitE (q.1 - X) = 0 := fit_abs (absI_sub hq.1 p4) (by omega)
  have f4 : fitE (q.2 - Y) = 0 := fit_abs (absI_sub hq.2 p5) (by omega)
  have g1 : bothE (p.1 + X) (p.2 + Y) = 0 := bothE_zero.2 ⟨f1, f2⟩
  have g2 : bothE (q.1 - X) (q.2 - Y) = 0 := bothE_zero.2 ⟨f3, f4⟩
  rw [g1, g2, both1_fit f1 f2, both1_fit f2 f1, both1_fit f3 f4, both1_fit f4 f3]
  simp only [not_true_eq_false, if_false]
  exact ⟨trivial, trivial, p4, p5, trivial, trivial⟩
theorem kick_two {g eps h : Int} {a b : Bd} (he : (pulledS g eps h a b (a.p, a.q) (b.p, b.q)).e = 0) :
    kickS g eps h [a, b] = (0, [(pulledS g eps h a b (a.p, a.q) (b.p, b.q)).p, (pulledS g eps h a b (a.p, a.q) (b.p, b.q)).q]) := by
  have e : kickS g eps h [a, b] = (if (if (pulledS g eps h a b (a.p, a.q) (b.p, b.q)).e = 0 then ((0 : Int), [(pulledS g eps h a b (a.p, a.q) (b.p, b.q)).p, (pulledS g eps h a b (a.p, a.q) (b.p, b.q)).q]) else ((pulledS g eps h a b (a.p, a.q) (b.p, b.q)).e, [(a.p, a.q), (b.p, b.q)])).1 = 0 then (0, (if (pulledS g eps h a b (a.p, a.q) (b.p, b.q)).e = 0 then ((0 : Int), [(pulledS g eps h a b (a.p, a.q) (b.p, b.q)).p, (pulledS g eps h a b (a.p, a.q) (b.p, b.q)).q]) else ((pulledS g eps h a b (a.p, a.q) (b.p, b.q)).e, [(a.p, a.q), (b.p, b.q)])).2) else (if (pulledS g eps h a b (a.p, a.q) (b.p, b.q)).e = 0 then ((0 : Int), [(pulledS g eps h a b (a.p, a.q) (b.p, b.q)).p, (pulledS g eps h a b (a.p, a.q) (b.p, b.q)).q]) else ((pulledS g eps h a b (a.p, a.q) (b.p, b.q)).e, [(a.p, a.q), (b.p, b.q)]))) := rfl
  rw [e, if_pos he, if_pos rfl]
end Go.Ab

/- Words for this claim: an evaluator of the program's functions, and what they come to. -/
import Derived.Test.YthknbnhchgbikaaAb6
set_option linter.all false
namespace Go.Ab
def moAdd (a b : Mo) : Mo := (a.1 + b.1, a.2 + b.2)
def moSub (a b : Mo) : Mo := (a.1 - b.1, a.2 - b.2)
/-- The same, without errors. -/
def pIn (K : Nat → Nat → Mo) (i : Nat) : Nat → Nat → List Mo → List Mo
  | 0, _, ps => ps
  | n + 1, j, ps => pIn K i n (j + 1) ((ps.set i (moAdd (ps.getD i (0, 0)) (K i j))).set j (moSub (ps.getD j (0, 0)) (K i j)))
def pOut (K : Nat → Nat → Mo) (L : Nat) : Nat → Nat → List Mo → List Mo
  | 0, _, ps => ps
  | n + 1, i, ps => pOut K L n (i + 1) (pIn K i (L - (i + 1)) (i + 1) ps)
/-- What a body gets in all. -/
def dIn (K : Nat → Nat → Mo) (i : Nat) : Nat → Nat → Nat → Mo
  | 0, _, _ => (0, 0)
  | n + 1, j, t => moAdd (if t = i then K i j else if t = j then moSub (0, 0) (K i j) else (0, 0)) (dIn K i n (j + 1) t)
def dOut (K : Nat → Nat → Mo) (L : Nat) : Nat → Nat → Nat → Mo
  | 0, _, _ => (0, 0)
  | n + 1, i, t => moAdd (dIn K i (L - (i + 1)) (i + 1) t) (dOut K L n (i + 1) t)
theorem moAdd_assoc (a b c : Mo) : moAdd (moAdd a b) c = moAdd a (moAdd b c) := by unfold moAdd; simp only [Prod.mk.injEq]; omega
theorem moAdd_zero (a : Mo) : moAdd a (0, 0) = a := by unfold moAdd; simp
theorem pIn_len (K : Nat → Nat → Mo) (i : Nat) : ∀ (n j : Nat) (ps : List Mo), (pIn K i n j ps).length = ps.length
  | 0, _, _ => rfl
  | n + 1, j, ps => by
    unfold pIn
    rw [pIn_len K i n (j + 1)]; simp
theorem pOut_len (K : Nat → Nat → Mo) (L : Nat) : ∀ (n i : Nat) (ps : List Mo), (pOut K L n i ps).length = ps.length
  | 0, _, _ => rfl
  | n + 1, i, ps => by
    unfold pOut
    rw [pOut_len K L n (i + 1), pIn_len]
theorem getD_set2 {l : List Mo} {i j t : Nat} {x y : Mo} (hij : i < j) (hj : j < l.length) : ((l.set i x).set j y).getD t (0, 0) = if t = j then y else if t = i then x else l.getD t (0, 0) := by
  rw [List.getD_eq_getElem?_getD, List.getD_eq_getElem?_getD, List.getElem?_set, List.getElem?_set, List.length_set]
  by_cases h1 : j = t
  · rw [if_pos h1, if_pos hj, if_pos h1.symm]; rfl
  · rw [if_neg h1, if_neg (fun q : t = j => h1 q.symm)]
    by_cases h2 : i = t
    · rw [if_pos h2, if_pos (by omega), if_pos h2.symm]; rfl
    · rw [if_neg h2, if_neg (fun q : t = i => h2 q.symm)]
theorem pIn_at (K : Nat → Nat → Mo) (i : Nat) : ∀ (n j : Nat) (ps : List Mo), i < j → j + n ≤ ps.length → ∀ t, (pIn K i n j ps).getD t (0, 0) = moAdd (ps.getD t (0, 0)) (dIn K i n j t)
  | 0, _, ps, _, _, t => (moAdd_zero _).symm
  | n + 1, j, ps, hij, hl, t => by
    unfold pIn dIn
    rw [pIn_at K i n (j + 1) _ (by omega) (by simp; omega) t, getD_set2 hij (by omega), ← moAdd_assoc]
    congr 1
    by_cases h1 : t = j
    · subst h1
      rw [if_pos rfl, if_neg (by omega), if_pos rfl]
      unfold moAdd moSub; simp only [Prod.mk.injEq]; omega
    · rw [if_neg h1]
      by_cases h2 : t = i
      · subst h2
        rw [if_pos rfl, if_pos rfl]
      · rw [if_neg h2, if_neg h2, if_neg h1, moAdd_zero]
theorem pOut_at (K : Nat → Nat → Mo) (L : Nat) : ∀ (n i : Nat) (ps : List Mo), i + n ≤ L → ps.length = L → ∀ t, (pOut K L n i ps).getD t (0, 0) = moAdd (ps.getD t (0, 0)) (dOut K L n i t)
  | 0, _, ps, _, _, t => (moAdd_zero _).symm
  | n + 1, i, ps, hi, hl, t => by
    unfold pOut dOut
    rw [pOut_at K L n (i + 1) _ (by omega) (by rw [pIn_len]; exact hl) t, pIn_at K i _ _ _ (by omega) (by omega), ← moAdd_assoc]
/-- Turned about. -/
def nK (K : Nat → Nat → Mo) : Nat → Nat → Mo := fun i j => moSub (0, 0) (K i j)
theorem moAdd_neg (a b : Mo) : moAdd (moSub (0, 0) a) (moSub (0, 0) b) = moSub (0, 0) (moAdd a b) := by unfold moAdd moSub; simp only [Prod.mk.injEq]; omega
theorem dIn_neg (K : Nat → Nat → Mo) (i : Nat) : ∀ (n j t : Nat), dIn (nK K) i n j t = moSub (0, 0) (dIn K i n j t)
  | 0, _, _ => rfl
  | n + 1, j, t => by
    unfold dIn
    rw [dIn_neg K i n (j + 1) t, ← moAdd_neg]
    congr 1
    unfold nK
    by_cases h2 : t = i
    · rw [if_pos h2, if_pos h2]
    · rw [if_neg h2, if_neg h2]
      by_cases h1 : t = j
      · rw [if_pos h1, if_pos h1]
      · rw [if_neg h1, if_neg h1]; rfl
theorem dOut_neg (K : Nat → Nat → Mo) (L : Nat) : ∀ (n i t : Nat), dOut (nK K) L n i t = moSub (0, 0) (dOut K L n i t)
  | 0, _, _ => rfl
  | n + 1, i, t => by
    unfold dOut
    rw [dOut_neg K L n (i + 1) t, dIn_neg, moAdd_neg]
theorem ext_getD {l m : List Mo} (hl : l.length = m.length) (h : ∀ t, l.getD t (0, 0) = m.getD t (0, 0)) : l = m := by
  apply List.ext_getElem hl
  intro t h1 h2
  have := h t
  simpa [List.getD, h1, h2] using this
theorem pOut_back (K : Nat → Nat → Mo) (ps : List Mo) : pOut (nK K) ps.length ps.length 0 (pOut K ps.length ps.length 0 ps) = ps := by
  apply ext_getD (by rw [pOut_len, pOut_len])
  intro t
  rw [pOut_at _ _ _ _ _ (by omega) (by rw [pOut_len]), pOut_at _ _ _ _ _ (by omega) rfl, dOut_neg]
  unfold moAdd moSub
  simp only [Prod.mk.injEq]
  refine Prod.ext ?_ ?_ <;> simp only <;> omega
/-- The sum. -/
def moSum (l : List Mo) : Mo := l.foldr moAdd (0, 0)
theorem moSum_set : ∀ (l : List Mo) (i : Nat) (x : Mo), i < l.length → moAdd (moSum (l.set i x)) (l.getD i (0, 0)) = moAdd (moSum l) x
  | [], _, _, h => by simp at h
  | a :: r, 0, x, _ => by
    show moAdd (moAdd x (moSum r)) a = moAdd (moAdd a (moSum r)) x
    unfold moAdd; simp only [Prod.mk.injEq]; omega
  | a :: r, i + 1, x, h => by
    have ih := moSum_set r i x (by simpa using h)
    show moAdd (moAdd a (moSum (r.set i x))) (r.getD i (0, 0)) = moAdd (moAdd a (moSum r)) x
    unfold moAdd at *
    simp only [Prod.mk.injEq] at *
    omega
theorem moSum_pair (l : List Mo) (i j : Nat) (k : Mo) (hij : i < j) (hj : j < l.length) : moSum ((l.set i (moAdd (l.getD i (0, 0)) k)).set j (moSub (l.getD j (0, 0)) k)) = moSum l := by
  have h1 := moSum_set l i (moAdd (l.getD i (0, 0)) k) (by omega)
  have h2 := moSum_set (l.set i (moAdd (l.getD i (0, 0)) k)) j (moSub (l.getD j (0, 0)) k) (by simpa using hj)
  have h3 : (l.set i (moAdd (l.getD i (0, 0)) k)).getD j (0, 0) = l.getD j (0, 0) := by
    simp only [List.getD, List.getElem?_set]
    rw [if_neg (by omega)]
  rw [h3] at h2
  generalize l.getD i (0, 0) = p at *
  generalize l.getD j (0, 0) = q at *
  unfold moAdd moSub at *
  simp only [Prod.mk.injEq] at *
  refine Prod.ext ?_ ?_ <;> omega
theorem pIn_sum (K : Nat → Nat → Mo) (i : Nat) : ∀ (n j : Nat) (ps : List Mo), i < j → j + n ≤ ps.length → moSum (pIn K i n j ps) = moSum ps
  | 0, _, _, _, _ => rfl
  | n + 1, j, ps, hij, hl => by
    unfold pIn
    rw [pIn_sum K i n (j + 1) _ (by omega) (by simp; omega), moSum_pair _ _ _ _ hij (by omega)]
theorem pOut_sum (K : Nat → Nat → Mo) (L : Nat) : ∀ (n i : Nat) (ps : List Mo), i + n ≤ L → ps.length = L → moSum (pOut K L n i ps) = moSum ps
  | 0, _, _, _, _ => rfl
  | n + 1, i, ps, hi, hl => by
    unfold pOut
    rw [pOut_sum K L n (i + 1) _ (by omega) (by rw [pIn_len]; exact hl), pIn_sum K i _ _ _ (by omega) (by omega)]
/-- The pulls of small bodies. -/
def kP (g eps h : Int) (bs : List Bd) : Nat → Nat → Mo := fun i j =>
  let a := bs.getD i b0
  let b := bs.getD j b0
  (pullX g a.m b.m (b.x - a.x) (b.y - a.y) eps h, pullY g a.m b.m (b.x - a.x) (b.y - a.y) eps h)
theorem small_set {ps : List Mo} {m : Int} {i : Nat} {x : Mo} (h : ∀ p ∈ ps, Mo.small p m) (hx : x.small m) : ∀ p ∈ ps.set i x, Mo.small p m := fun p hp => by
  rcases List.mem_or_eq_of_mem_set hp with h' | h'
  · exact h p h'
  · exact h' ▸ hx
theorem small_up {p : Mo} {m n : Int} (h : p.small m) (hm : m ≤ n) : p.small n := ⟨by have := h.1; omega, by have := h.2; omega⟩
theorem small_getD {ps : List Mo} {m : Int} (h : ∀ p ∈ ps, Mo.small p m) (h0 : 0 ≤ m) (i : Nat) : Mo.small (ps.getD i (0, 0)) m := by
  simp only [List.getD]
  cases q : ps[i]? with
  | none => exact ⟨h0, h0⟩
  | some n => simpa using h n (List.mem_of_getElem? q)
theorem bsmall_getD {bs : List Bd} (h : ∀ b ∈ bs, b.small) (i : Nat) : (bs.getD i b0).small := by
  simp only [List.getD]
  cases q : bs[i]? with
  | none => refine ⟨?_, ?_, ?_⟩ <;> decide
  | some n => simpa using h n (List.mem_of_getElem? q)
theorem kIn_p {g eps h : Int} {bs : List Bd} (hg : absI g ≤ 55340232221128654848) (he : eps = 4611686018427387904) (hh : absI h ≤ 18446744073709551616) (hb : ∀ b ∈ bs, b.small) (i : Nat) :
    ∀ (n j : Nat) (ps : List Mo) (m : Int), 0 ≤ m → (∀ p ∈ ps, Mo.small p m) → m + n * 73442243553550769070571520 ≤ 1267650600228229401496703205376 →
      kIn g eps h bs i n j ps = (0, pIn (kP g eps h bs) i n j ps) ∧ ∀ p ∈ pIn (kP g eps h bs) i n j ps, Mo.small p (m + n * 73442243553550769070571520)
  | 0, j, ps, m, h0, hp, hm => ⟨rfl, fun p q => small_up (hp p q) (by omega)⟩
  | n + 1, j, ps, m, h0, hp, hm => by
    have hm' : m + 73442243553550769070571520 + n * 73442243553550769070571520 ≤ 1267650600228229401496703205376 := by
      rw [Int.natCast_succ, Int.add_mul] at hm; omega
    have hn : 0 ≤ (n : Int) * 73442243553550769070571520 := Int.mul_nonneg (by omega) (by omega)
    obtain ⟨q1, _, q3, q4, q5, q6⟩ := pulledS_small hg he hh (bsmall_getD hb i) (bsmall_getD hb j) (small_getD hp h0 i) (small_getD hp h0 j) (by omega : m ≤ _)
    have hps : ∀ p ∈ (ps.set i (moAdd (ps.getD i (0, 0)) (kP g eps h bs i j))).set j (moSub (ps.getD j (0, 0)) (kP g eps h bs i j)), Mo.small p (m + 73442243553550769070571520) := by
      refine small_set (small_set (fun p q => small_up (hp p q) (by omega)) ?_) ?_
      · exact ⟨absI_add (small_getD hp h0 i).1 q3, absI_add (small_getD hp h0 i).2 q4⟩
      · exact ⟨absI_sub (small_getD hp h0 j).1 q3, absI_sub (small_getD hp h0 j).2 q4⟩
    have ih := kIn_p hg he hh hb i n (j + 1) _ (m + 73442243553550769070571520) (by omega) hps hm'
    have e : kIn g eps h bs i (n + 1) j ps = if (pulledS g eps h (bs.getD i b0) (bs.getD j b0) (ps.getD i (0, 0)) (ps.getD j (0, 0))).e = 0 then kIn g eps h bs i n (j + 1) ((ps.set i (pulledS g eps h (bs.getD i b0) (bs.getD j b0) (ps.getD i (0, 0)) (ps.getD j (0, 0))).p).set j (pulledS g eps h (bs.getD i b0) (bs.getD j b0) (ps.getD i (0, 0)) (ps.getD j (0, 0))).q) else ((pulledS g eps h (bs.getD i b0) (bs.getD j b0) (ps.getD i (0, 0)) (ps.getD j (0, 0))).e, ps) := rfl
    rw [e, if_pos q1, q5, q6]
    unfold pIn
    refine ⟨ih.1, fun p q => small_up (ih.2 p q) ?_⟩
    rw [Int.natCast_succ, Int.add_mul]; omega
theorem kOut_p {g eps h : Int} {bs : List Bd} (hg : absI g ≤ 55340232221128654848) (he : eps = 4611686018427387904) (hh : absI h ≤ 18446744073709551616) (hb : ∀ b ∈ bs, b.small) (hl : bs.length ≤ 10) :
    ∀ (n i : Nat) (ps : List Mo) (m : Int), 0 ≤ m → (∀ p ∈ ps, Mo.small p m) → m + n * 734422435535507690705715200 ≤ 1267650600228229401496703205376 →
      kOut g eps h bs n i ps = (0, pOut (kP g eps h bs) bs.length n i ps) ∧ ∀ p ∈ pOut (kP g eps h bs) bs.length n i ps, Mo.small p (m + n * 734422435535507690705715200)
  | 0, i, ps, m, h0, hp, hm => ⟨rfl, fun p q => small_up (hp p q) (by omega)⟩
  | n + 1, i, ps, m, h0, hp, hm => by
    have hm' : m + 734422435535507690705715200 + n * 734422435535507690705715200 ≤ 1267650600228229401496703205376 := by
      rw [Int.natCast_succ, Int.add_mul] at hm; omega
    have hn : 0 ≤ (n : Int) * 734422435535507690705715200 := Int.mul_nonneg (by omega) (by omega)
    have hc : ((bs.length - (i + 1) : Nat) : Int) * 73442243553550769070571520 ≤ 734422435535507690705715200 := by
      have : ((bs.length - (i + 1) : Nat) : Int) ≤ 10 := by omega
      omega
    have ki := kIn_p hg he hh hb i (bs.length - (i + 1)) (i + 1) ps m h0 hp (by omega)
    have ih := kOut_p hg he hh hb hl n (i + 1) _ (m + 734422435535507690705715200) (by omega) (fun p q => small_up (ki.2 p q) (by omega)) hm'
    have e : kOut g eps h bs (n + 1) i ps = if (kIn g eps h bs i (bs.length - (i + 1)) (i + 1) ps).1 = 0 then kOut g eps h bs n (i + 1) (kIn g eps h bs i (bs.length - (i + 1)) (i + 1) ps).2 else kIn g eps h bs i (bs.length - (i + 1)) (i + 1) ps := rfl
    rw [e, ki.1, if_pos rfl]
    unfold pOut
    refine ⟨ih.1, fun p q => small_up (ih.2 p q) ?_⟩
    rw [Int.natCast_succ, Int.add_mul]; omega
/-- Behind a time, and back. -/
def withMo (b : Bd) (p : Mo) : Bd := { b with p := p.1, q := p.2 }
def withMos (bs : List Bd) (ps : List Mo) : List Bd := List.zipWith withMo bs ps
theorem withMos_len {bs : List Bd} {ps : List Mo} (h : ps.length = bs.length) : (withMos bs ps).length = bs.length := by simp [withMos, h]
theorem moms_withMos {bs : List Bd} {ps : List Mo} (h : ps.length = bs.length) : moms (withMos bs ps) = ps := by
  apply List.ext_getElem
  · simp [moms, withMos, h]
  · intro t h1 h2
    simp [moms, withMos, withMo]
theorem kP_with {g eps h : Int} {bs : List Bd} {ps : List Mo} (hl : ps.length = bs.length) (i j : Nat) : kP g eps h (withMos bs ps) i j = kP g eps h bs i j := by
  have key : ∀ t, ((withMos bs ps).getD t b0).m = (bs.getD t b0).m ∧ ((withMos bs ps).getD t b0).x = (bs.getD t b0).x ∧ ((withMos bs ps).getD t b0).y = (bs.getD t b0).y := by
    intro t
    by_cases q : t < bs.length
    · have q2 : t < (withMos bs ps).length := by rw [withMos_len hl]; exact q
      have q3 : t < ps.length := by omega
      have e1 : (withMos bs ps).getD t b0 = withMo bs[t] ps[t] := by
        rw [List.getD_eq_getElem?_getD, List.getElem?_eq_getElem q2]
        simp [withMos]
      have e2 : bs.getD t b0 = bs[t] := by
        rw [List.getD_eq_getElem?_getD, List.getElem?_eq_getElem q]; rfl
      rw [e1, e2]
      exact ⟨rfl, rfl, rfl⟩
    · have q2 : ¬ t < (withMos bs ps).length := by rw [withMos_len hl]; exact q
      simp [List.getD, List.getElem?_eq_none (Nat.le_of_not_lt q), List.getElem?_eq_none (Nat.le_of_not_lt q2)]
  unfold kP
  simp only
  rw [(key i).1, (key i).2.1, (key i).2.2, (key j).1, (key j).2.1, (key j).2.2]
theorem kP_neg {g eps h : Int} {bs : List Bd} (hg : absI g ≤ 55340232221128654848) (he : eps = 4611686018427387904) (hh : absI h ≤ 18446744073709551616) (hb : ∀ b ∈ bs, b.small) : kP g eps (-h) bs = nK (kP g eps h bs) := by
  funext i j
  have := pull_neg (small_all hg he hh (bsmall_getD hb i) (bsmall_getD hb j))
  unfold kP nK moSub
  simp only
  rw [this.1, this.2]
  simp only [Int.zero_sub]
theorem with_small {bs : List Bd} {ps : List Mo} (hb : ∀ b ∈ bs, b.small) : ∀ b ∈ withMos bs ps, b.small := fun b h => by
  unfold withMos at h
  rw [List.mem_iff_getElem] at h
  obtain ⟨t, ht, rfl⟩ := h
  have hl : (List.zipWith withMo bs ps).length = min bs.length ps.length := List.length_zipWith
  have h1 : t < bs.length := by omega
  have := hb (bs[t]) (List.getElem_mem h1)
  rw [List.getElem_zipWith]
  exact this
theorem keeps {g eps h : Int} {bs : List Bd} (hg : absI g ≤ 55340232221128654848) (he : eps = 4611686018427387904) (hh : absI h ≤ 18446744073709551616) (hb : ∀ b ∈ bs, b.small) (hm : ∀ p ∈ moms bs, Mo.small p 73786976294838206464) (hl : bs.length ≤ 10) :
    ∃ ps, kickS g eps h bs = (0, ps) ∧ ps.length = bs.length ∧ moSum ps = moSum (moms bs) ∧ (∀ p ∈ ps, Mo.small p 7344298142331371745351990464) ∧ kickS g eps (-h) (withMos bs ps) = (0, moms bs) := by
  have hml : (moms bs).length = bs.length := by simp [moms]
  have hc : (bs.length : Int) * 734422435535507690705715200 ≤ 7344224355355076907057152000 := by omega
  have k1 := kOut_p hg he hh hb hl bs.length 0 (moms bs) 73786976294838206464 (by omega) hm (by omega)
  have hpl : (pOut (kP g eps h bs) bs.length bs.length 0 (moms bs)).length = bs.length := by rw [pOut_len, hml]
  have hps : ∀ p ∈ pOut (kP g eps h bs) bs.length bs.length 0 (moms bs), Mo.small p 7344298142331371745351990464 := fun p q => small_up (k1.2 p q) (by omega)
  refine ⟨pOut (kP g eps h bs) bs.length bs.length 0 (moms bs), k1.1, hpl, pOut_sum _ _ _ _ _ (by omega) hml, hps, ?_⟩
  have hh' : absI (-h) ≤ 18446744073709551616 := by rw [absI_neg]; exact hh
  have k2 := kOut_p hg he hh' (with_small (ps := pOut (kP g eps h bs) bs.length bs.length 0 (moms bs)) hb) (by rw [withMos_len hpl]; exact hl) bs.length 0 (pOut (kP g eps h bs) bs.length bs.length 0 (moms bs)) 7344298142331371745351990464 (by omega) hps (by omega)
  unfold kickS
  rw [withMos_len hpl, moms_withMos hpl]
  rw [k2.1]
  have e : kP g eps (-h) (withMos bs (pOut (kP g eps h bs) bs.length bs.length 0 (moms bs))) = nK (kP g eps h bs) := by
    rw [← kP_neg hg he hh hb]
    funext i j
    exact kP_with hpl i j
  rw [e, withMos_len hpl]
  have := pOut_back (kP g eps h bs) (moms bs)
  rw [hml] at this
  rw [this]
end Go.Ab

namespace Go.Ab
def lK (bs : List Bd) (ps : List Mo) (k : Nat) : List Bd := (List.range bs.length).map fun t => if t < k then withMo (bs.getD t b0) (ps.getD t (0, 0)) else bs.getD t b0
theorem lK_len (bs : List Bd) (ps : List Mo) (k : Nat) : (lK bs ps k).length = bs.length := by simp [lK]
theorem getD_at {α : Type} {l : List α} {t : Nat} {d : α} (h : t < l.length) : l.getD t d = l[t] := by
  rw [List.getD_eq_getElem?_getD, List.getElem?_eq_getElem h]; rfl
theorem lK_zero (bs : List Bd) (ps : List Mo) : lK bs ps 0 = bs := by
  apply List.ext_getElem (lK_len _ _ _)
  intro t h1 h2
  simp only [lK, List.getElem_map, List.getElem_range]
  rw [if_neg (by omega), getD_at h2]
theorem lK_full {bs : List Bd} {ps : List Mo} (hl : ps.length = bs.length) : lK bs ps bs.length = withMos bs ps := by
  apply List.ext_getElem (by rw [lK_len, withMos_len hl])
  intro t h1 h2
  rw [lK_len] at h1
  simp only [lK, List.getElem_map, List.getElem_range, withMos, List.getElem_zipWith]
  rw [if_pos h1, getD_at h1, getD_at (by omega : t < ps.length)]
theorem lK_at {bs : List Bd} {ps : List Mo} {k : Nat} (hk : k < bs.length) : (lK bs ps k)[k]? = some bs[k] := by
  rw [List.getElem?_eq_getElem (by rw [lK_len]; exact hk)]
  simp only [lK, List.getElem_map, List.getElem_range]
  rw [if_neg (by omega), getD_at hk]
theorem lK_set {bs : List Bd} {ps : List Mo} {k : Nat} (hk : k < bs.length) (hl : ps.length = bs.length) : (lK bs ps k).set k (withMo bs[k] (ps.getD k (0, 0))) = lK bs ps (k + 1) := by
  apply List.ext_getElem (by rw [List.length_set, lK_len, lK_len])
  intro t h1 h2
  rw [lK_len] at h2
  rw [List.getElem_set]
  simp only [lK, List.getElem_map, List.getElem_range]
  by_cases q : k = t
  · subst q
    rw [if_pos rfl, if_pos (by omega), getD_at h2]
  · rw [if_neg q]
    by_cases q2 : t < k
    · rw [if_pos q2, if_pos (by omega)]
    · rw [if_neg q2, if_neg (by omega)]
theorem moSum_append (l : List Mo) (x : Mo) : moSum (l ++ [x]) = moAdd (moSum l) x := by
  induction l with
  | nil => show moAdd x (0, 0) = moAdd (0, 0) x; unfold moAdd; simp
  | cons a r ih =>
    show moAdd a (moSum (r ++ [x])) = moAdd (moAdd a (moSum r)) x
    rw [ih, moAdd_assoc]
theorem moSum_take {l : List Mo} {k : Nat} (hk : k < l.length) : moSum (l.take (k + 1)) = moAdd (moSum (l.take k)) l[k] := by
  rw [List.take_succ_eq_append_getElem hk, moSum_append]
theorem moSum_small {m : Int} : ∀ (l : List Mo), (∀ p ∈ l, Mo.small p m) → Mo.small (moSum l) (l.length * m)
  | [], _ => by
    unfold Mo.small moSum
    simp; decide
  | a :: r, h => by
    have ih := moSum_small r (fun p q => h p (List.mem_cons_of_mem _ q))
    have ha := h a (List.mem_cons_self ..)
    have e1 := absI_add ha.1 ih.1
    have e2 := absI_add ha.2 ih.2
    have e : ((a :: r).length : Int) * m = m + r.length * m := by
      rw [List.length_cons, Int.natCast_succ, Int.add_mul]; omega
    rw [e]
    exact ⟨e1, e2⟩
theorem small_take {l : List Mo} {m : Int} (h : ∀ p ∈ l, Mo.small p m) (k : Nat) : ∀ p ∈ l.take k, Mo.small p m := fun p q => h p (List.mem_of_mem_take q)
/-- A sum of some, and one more: it fits. -/
theorem take_small {l : List Mo} {k : Nat} (h : ∀ p ∈ l, Mo.small p 7344298142331371745351990464) (hl : l.length ≤ 10) : Mo.small (moSum (l.take k)) 73442981423313717453519904640 := by
  refine small_up (moSum_small _ (small_take h k)) ?_
  have : (l.take k).length ≤ 10 := by rw [List.length_take]; omega
  omega
end Go.Ab

/- Words for this claim: an evaluator of the program's functions, and what they come to. -/
import Derived.Test.YthknbnhchgbikaaAb1
import Derived.Orders
import Derived.SizedLaws
import Derived.OpenShut
import Derived.ChangeOld
import Derived.Below
import Derived.Carry
set_option linter.all false
namespace Go.Ab
variable {P : Program} {nt : Nat} {w0 : World} {W : Wr} {j : J} {σ : St} {a : Act} {w : World} {o : Oper}

def outG (out : List Blk) : Key → Option Blk
  | .o i => out[i]?
  | .l _ => none
def resG (os : List (Option Blk)) (news : List Blk) : Key → Option Blk
  | .o i => (os[i]?).getD none
  | .l i => news[i]?
def ownB (j : J) (out : List Blk) (n : Nat) : Prop := ∃ i b p, out[i]? = some b ∧ b.own = true ∧ j (.o i) = some p ∧ p.block = n
def outKey (k : Key) : Prop := ∃ i, k = .o i
/-- What g tells of function f, the machine's call does. -/
def Sound1 (P : Program) (f : Nat) (g : List V → List Blk → Option (V × List (Option Blk) × List Blk)) : Prop :=
  ∀ args out v os news, g args out = some (v, os, news) →
    (∃ fn, P.funcs[f]? = some fn ∧ fn.body.isSome = true ∧ fn.name ≠ "runtime.NumGoroutine") ∧
    ∀ (j : J) (w : World) (vals : List Value), All2 (RelV1 j) args vals → (∀ s, j (.l s) = none) → (∀ v ∈ args, ∀ k ∈ v.keys1, outKey k) → (∀ b ∈ out, ∀ k ∈ b.keys, outKey k) → RelH j (outG out) w →
      Calls P f vals.toArray w fun e w' => ∃ rv j', e = .returned rv ∧ (∀ i, j' (.o i) = j (.o i)) ∧ RelV j' v rv ∧ RelH j' (resG os news) w' ∧ RelW w (ownB j out) w' ∧
        (∀ b ∈ news, b.own = true) ∧ (∀ (i : Nat) (b : Blk) (p : Place), news[i]? = some b → j' (.l i) = some p → w.heap.size ≤ p.block ∨ ownB j out p.block) ∧
        (∀ (i : Nat) (b b' : Blk), out[i]? = some b → b.own = true → os[i]? = some (some b') → b'.own = true)
/-- What the evaluator's 'call' tells, the machine's call does. -/
def CallSound (P : Program) (call : CallF) : Prop := ∀ f, Sound1 P f (call f)

/-! ### Renaming -/
theorem RelL.ren {j j2 : J} {ρ : Key → Option Key} (hρ : ∀ k k', ρ k = some k' → j2 k' = j k) {p p' : Loc} {v : Value} (h : p.ren ρ = some p') (hr : RelL j p v) : RelL j2 p' v := by
  unfold Loc.ren at h
  simp only [Option.map_eq_some_iff] at h
  obtain ⟨k, h1, rfl⟩ := h
  obtain ⟨pl, h2, h3⟩ := hr
  exact ⟨pl, (hρ _ _ h1).trans h2, h3⟩
theorem locs_ren {j j2 : J} {ρ : Key → Option Key} (hρ : ∀ k k', ρ k = some k' → j2 k' = j k) : ∀ {l l' : List Loc} {vs : List Value}, locsRen ρ l = some l' → All2 (RelL j) l vs → All2 (RelL j2) l' vs
  | [], _, vs, h, hr => by simp [locsRen] at h; subst h; cases vs with | nil => trivial | cons _ _ => exact hr.elim
  | p :: r, l', vs, h, hr => by
    simp only [locsRen] at h
    split at h <;> simp at h
    rename_i h1 h2
    subst h
    cases vs with
    | nil => exact hr.elim
    | cons v vs => exact ⟨hr.1.ren hρ h1, locs_ren hρ h2 hr.2⟩
theorem RelC.ren {j j2 : J} {ρ : Key → Option Key} (hρ : ∀ k k', ρ k = some k' → j2 k' = j k) {c : Cell} {v : Value} (hr : RelC j c v) : RelC j2 (c.ren ρ) v := by
  cases c with
  | ptr p =>
    simp only [Cell.ren]
    split
    · rename_i h; exact RelL.ren hρ h hr
    · trivial
  | slc k z i n =>
    simp only [Cell.ren]
    split
    · rename_i h; have e := hρ _ _ h; simp only [RelC] at *; rw [e]; exact hr
    · trivial
  | fn f cap =>
    simp only [Cell.ren]
    split
    · rename_i h; obtain ⟨vs, h1, h2⟩ := hr; exact ⟨vs, h1, locs_ren hρ h h2⟩
    · trivial
  | _ => exact hr
theorem RelC1.ren {j j2 : J} {ρ : Key → Option Key} (hρ : ∀ k k', ρ k = some k' → j2 k' = j k) {c : Cell} {v : Value} (hr : RelC1 j c v) : RelC1 j2 (c.ren ρ) v := ⟨hr.1.ren hρ, hr.2⟩
theorem RelV1.ren {j j2 : J} {ρ : Key → Option Key} (hρ : ∀ k k', ρ k = some k' → j2 k' = j k) {x : V} {v : Value} (hr : RelV1 j x v) : RelV1 j2 (x.ren1 ρ) v := by
  cases x with
  | c x => exact RelC.ren hρ hr
  | agg cs => obtain ⟨vs, h1, h2⟩ := hr; exact ⟨vs, h1, (All2.map _).2 (h2.imp fun a b h => h.ren hρ)⟩
  | tup l => exact hr.elim
theorem RelV.ren {j j2 : J} {ρ : Key → Option Key} (hρ : ∀ k k', ρ k = some k' → j2 k' = j k) {x : V} {v : Value} (hr : RelV j x v) : RelV j2 (x.ren ρ) v := by
  cases x with
  | c x => exact RelV1.ren (x := .c x) hρ hr
  | agg cs => exact RelV1.ren (x := .agg cs) hρ hr
  | tup vs => obtain ⟨ws, h1, h2⟩ := hr; exact ⟨ws, h1, (All2.map _).2 (h2.imp fun a b h => h.ren hρ)⟩
theorem RelB.ren {j j2 : J} {ρ : Key → Option Key} (hρ : ∀ k k', ρ k = some k' → j2 k' = j k) {b : Blk} {p : Place} {w : World} (hr : RelB j b p w) : RelB j2 (b.ren ρ) p w := by
  unfold Blk.ren
  split
  · rename_i hp
    exact hr.congr fun k hk => by simp [Blk.keys, hp] at hk
  · rename_i hp
    refine ⟨hr.lt, hr.sz, hr.own, ?_, ?_, ?_, ?_⟩
    · intro e he
      obtain ⟨e', h1, rfl⟩ := List.mem_map.1 he
      simpa using hr.len e' h1
    · intro h; exact absurd h hp
    · intro i e he o c hc
      simp only [List.getElem?_map, Option.map_eq_some_iff] at he
      obtain ⟨e', h1, rfl⟩ := he
      simp only [List.getElem?_map, Option.map_eq_some_iff] at hc
      obtain ⟨c', h2, rfl⟩ := hc
      obtain ⟨v, h3, h4⟩ := hr.rd i e' h1 o c' h2
      exact ⟨v, h3, h4.ren hρ⟩
    · intro ho; simpa using hr.ow ho
theorem Blk.ren_own (ρ : Key → Option Key) (b : Blk) : (b.ren ρ).own = b.own := by unfold Blk.ren; split <;> rfl
theorem Blk.ren_nil {ρ : Key → Option Key} {b : Blk} (h : b.els = []) : (b.ren ρ).els = [] := by unfold Blk.ren; split <;> simp [h]
theorem place_spec {k : Key} : ∀ {l : List Key} {n i : Nat}, place k l n = some i → n ≤ i ∧ l[i - n]? = some k
  | [], n, i, h => by simp [place] at h
  | x :: r, n, i, h => by
    unfold place at h
    split at h
    · rename_i hx; simp at h; subst h; simp [hx]
    · obtain ⟨h1, h2⟩ := place_spec h
      refine ⟨by omega, ?_⟩
      rw [show i - n = (i - (n + 1)) + 1 by omega]; simpa using h2
theorem inR_spec {κs : List Key} {k k' : Key} (h : inR κs k = some k') : ∃ i, k' = .o i ∧ κs[i]? = some k := by
  unfold inR at h
  simp only [Option.map_eq_some_iff] at h
  obtain ⟨i, h1, rfl⟩ := h
  exact ⟨i, rfl, by simpa using (place_spec h1).2⟩
theorem mem_names {d : Nat} : ∀ {m s : Nat}, s ∈ names d m ↔ ∃ i, i < m ∧ s = nm d i
  | 0, s => by simp [names]
  | m + 1, s => by
    simp only [names, List.mem_append, mem_names, List.mem_singleton]
    constructor
    · rintro (⟨i, h1, h2⟩ | h)
      · exact ⟨i, by omega, h2⟩
      · exact ⟨m, by omega, h⟩
    · rintro ⟨i, h1, h2⟩
      rcases Nat.lt_or_ge i m with h | h
      · exact .inl ⟨i, h, h2⟩
      · right; obtain rfl : i = m := by omega
        exact h2
theorem nm_inj {d i i' : Nat} (h : nm d i = nm d i') : i = i' := by unfold nm at h; omega
theorem outR_spec {κs : List Key} {d m : Nat} {k k' : Key} (h : outR κs d m k = some k') : (∃ i, k = .o i ∧ κs[i]? = some k' ∧ ∀ n ∈ names d m, k' ≠ .l n) ∨ (∃ i, k = .l i ∧ i < m ∧ k' = .l (nm d i)) := by
  cases k with
  | o i =>
    left
    simp only [outR] at h
    split at h
    · rename_i s hs
      split at h <;> simp at h
      rename_i hn
      subst h
      exact ⟨i, rfl, hs, fun n hn' e => hn (by simp only [Key.l.injEq] at e; subst e; simpa using hn')⟩
    · rename_i x hx
      refine ⟨i, rfl, h, fun n _ e => ?_⟩
      subst e; exact hx n h
  | l i =>
    right
    simp only [outR] at h
    split at h <;> simp at h
    rename_i hi
    exact ⟨i, rfl, hi, h.symm⟩

/-! ### Keys -/
theorem elsKeys_mem {k : Key} : ∀ {es : List (List Cell)}, k ∈ elsKeys es → ∃ e ∈ es, k ∈ cellsKeys e
  | e :: r, h => by
    simp only [elsKeys, List.mem_append] at h
    rcases h with h | h
    · exact ⟨e, by simp, h⟩
    · obtain ⟨e', h1, h2⟩ := elsKeys_mem h; exact ⟨e', by simp [h1], h2⟩
theorem valsKeys_mem {k : Key} : ∀ {vs : List V}, k ∈ valsKeys vs → ∃ v ∈ vs, k ∈ v.keys1
  | e :: r, h => by
    simp only [valsKeys, List.mem_append] at h
    rcases h with h | h
    · exact ⟨e, by simp, h⟩
    · obtain ⟨e', h1, h2⟩ := valsKeys_mem h; exact ⟨e', by simp [h1], h2⟩
theorem cellsKeys_mem {k : Key} : ∀ {cs : List Cell}, k ∈ cellsKeys cs → ∃ c ∈ cs, k ∈ c.keys
  | c :: r, h => by
    simp only [cellsKeys, List.mem_append] at h
    rcases h with h | h
    · exact ⟨c, by simp, h⟩
    · obtain ⟨c', h1, h2⟩ := cellsKeys_mem h; exact ⟨c', by simp [h1], h2⟩
theorem Blk.keys_els {b : Blk} {k : Key} (h : k ∈ b.keys) : b.pl = false ∧ ∃ e ∈ b.els, k ∈ cellsKeys e := by
  unfold Blk.keys at h
  split at h
  · cases h
  · rename_i hp; exact ⟨by simpa using hp, elsKeys_mem h⟩
theorem Cell.ren_keys {ρ : Key → Option Key} {c : Cell} {k : Key} (h : k ∈ (c.ren ρ).keys) : ∃ k0 ∈ c.keys, ρ k0 = some k := by
  cases c with
  | ptr p =>
    simp only [Cell.ren] at h
    split at h
    · rename_i p' hp
      simp only [Loc.ren, Option.map_eq_some_iff] at hp
      obtain ⟨k0, h1, rfl⟩ := hp
      simp only [Cell.keys, List.mem_singleton] at h; subst h
      exact ⟨p.k, by simp [Cell.keys], h1⟩
    · simp [Cell.keys] at h
  | slc k1 z i n =>
    simp only [Cell.ren] at h
    split at h
    · rename_i k' hk
      simp only [Cell.keys, List.mem_singleton] at h; subst h
      exact ⟨k1, by simp [Cell.keys], hk⟩
    · simp [Cell.keys] at h
  | fn f cap =>
    simp only [Cell.ren] at h
    split at h
    · rename_i l hl
      simp only [Cell.keys] at h
      have key : ∀ {cap l : List Loc}, locsRen ρ cap = some l → ∀ k ∈ l.map (·.k), ∃ k0 ∈ cap.map (·.k), ρ k0 = some k := by
        intro cap
        induction cap with
        | nil => intro l hl k hk; simp [locsRen] at hl; subst hl; simp at hk
        | cons p r ih =>
          intro l hl k hk
          simp only [locsRen] at hl
          split at hl <;> simp at hl
          rename_i p' r' h1 h2
          subst hl
          simp only [List.map_cons, List.mem_cons] at hk
          rcases hk with rfl | hk
          · simp only [Loc.ren, Option.map_eq_some_iff] at h1
            obtain ⟨k0, h1, rfl⟩ := h1
            exact ⟨p.k, by simp, h1⟩
          · obtain ⟨k0, q1, q2⟩ := ih h2 k hk
            exact ⟨k0, by simp only [List.map_cons, List.mem_cons]; exact .inr q1, q2⟩
      exact key hl k h
    · simp [Cell.keys] at h
  | _ => simp [Cell.ren, Cell.keys] at h
theorem cells_ren_keys {ρ : Key → Option Key} {cs : List Cell} {k : Key} (h : k ∈ cellsKeys (cs.map (Cell.ren ρ))) : ∃ k0 ∈ cellsKeys cs, ρ k0 = some k := by
  obtain ⟨c, h1, h2⟩ := cellsKeys_mem h
  obtain ⟨c0, h3, rfl⟩ := List.mem_map.1 h1
  obtain ⟨k0, h4, h5⟩ := Cell.ren_keys h2
  exact ⟨k0, mem_cellsKeys h3 h4, h5⟩
theorem V.ren1_keys {ρ : Key → Option Key} {v : V} {k : Key} (h : k ∈ (v.ren1 ρ).keys1) : ∃ k0 ∈ v.keys1, ρ k0 = some k := by
  cases v with
  | c x => exact Cell.ren_keys h
  | agg cs => exact cells_ren_keys h
  | tup vs => simp [V.ren1, V.keys1, Cell.keys] at h
theorem V.ren_keys {ρ : Key → Option Key} {v : V} {k : Key} (h : k ∈ (v.ren ρ).keys) : ∃ k0 ∈ v.keys, ρ k0 = some k := by
  cases v with
  | c x => exact Cell.ren_keys h
  | agg cs => exact cells_ren_keys h
  | tup vs =>
    simp only [V.ren, V.keys] at h
    obtain ⟨v, h1, h2⟩ := valsKeys_mem h
    obtain ⟨v0, h3, rfl⟩ := List.mem_map.1 h1
    obtain ⟨k0, h4, h5⟩ := V.ren1_keys h2
    exact ⟨k0, mem_valsKeys h3 h4, h5⟩
theorem Blk.ren_keys {ρ : Key → Option Key} {b : Blk} {k : Key} (h : k ∈ (b.ren ρ).keys) : ∃ k0 ∈ b.keys, ρ k0 = some k := by
  unfold Blk.ren at h
  split at h
  · rename_i hp; simp [Blk.keys, hp] at h
  · rename_i hp
    obtain ⟨_, e, h1, h2⟩ := Blk.keys_els h
    obtain ⟨e0, h3, rfl⟩ := List.mem_map.1 h1
    obtain ⟨k0, h4, h5⟩ := cells_ren_keys h2
    refine ⟨k0, ?_, h5⟩
    simp only [Blk.keys, if_neg hp]
    exact mem_elsKeys h3 h4
/-! ### What is reached -/
theorem reach_spec {get : Key → Option Blk} : ∀ {n : Nat} {ks acc κs : List Key}, reach get n ks acc = some κs → acc.Nodup → κs.Nodup ∧ (acc ≠ [] ∨ ks ≠ [] → κs ≠ [])
  | n, [], acc, κs, h, hd => by
    have : acc = κs := by cases n <;> simpa [reach] using h
    subst this; exact ⟨hd, fun h => h.resolve_right (by simp)⟩
  | 0, k :: ks, acc, κs, h, hd => by simp [reach] at h
  | n + 1, k :: ks, acc, κs, h, hd => by
    simp only [reach] at h
    split at h
    · rename_i hc
      have := reach_spec h hd
      exact ⟨this.1, fun _ => this.2 (.inl (by intro e; subst e; simp at hc))⟩
    · rename_i hc
      split at h
      · cases h
      · have := reach_spec h (by
          rw [List.nodup_append]
          refine ⟨hd, by simp, fun a ha b hb e => ?_⟩
          simp only [List.mem_singleton] at hb; subst hb; subst e
          simp at hc; exact hc ha)
        exact ⟨this.1, fun _ => this.2 (.inl (by simp))⟩
theorem getAll_spec {get : Key → Option Blk} : ∀ {κs : List Key} {bs : List Blk}, getAll get κs = some bs → κs.length = bs.length ∧ ∀ (i : Nat) (k : Key), κs[i]? = some k → get k = bs[i]?
  | [], bs, h => by simp [getAll] at h; subst h; exact ⟨rfl, fun i k h => by simp at h⟩
  | k :: r, bs, h => by
    simp only [getAll] at h
    split at h <;> simp at h
    rename_i b bs' h1 h2
    subst h
    obtain ⟨q1, q2⟩ := getAll_spec h2
    refine ⟨by simp [q1], fun i k' hk => ?_⟩
    cases i with
    | zero => simp at hk; subst hk; simpa using h1
    | succ i => simpa using q2 i k' (by simpa using hk)

/-! ### What is written -/
theorem lastW_append (k : Key) : ∀ (a b : List (Key × Option Blk)), lastW k (a ++ b) = match lastW k b with | some x => some x | none => lastW k a
  | [], b => by simp [lastW]; cases lastW k b <;> rfl
  | (k', x) :: r, b => by
    simp only [List.cons_append, lastW, lastW_append k r b]
    cases lastW k b <;> rfl
theorem lastW_newW {d : Nat} {ρ : Key → Option Key} {k : Key} : ∀ {news : List Blk} {n : Nat}, 
    (∀ x, lastW k (newW d ρ n news) = some x → ∃ i c, k = .l (nm d (n + i)) ∧ news[i]? = some c ∧ x = some (c.ren ρ)) ∧
    (lastW k (newW d ρ n news) = none → ∀ i, i < news.length → k ≠ .l (nm d (n + i)))
  | [], n => ⟨fun x h => by simp [newW, lastW] at h, fun _ i h => by simp at h⟩
  | b :: r, n => by
    obtain ⟨h1, h2⟩ := lastW_newW (d := d) (ρ := ρ) (k := k) (news := r) (n := n + 1)
    simp only [newW, lastW]
    cases hl : lastW k (newW d ρ (n + 1) r) with
    | some y =>
      refine ⟨fun x hx => ?_, fun h => by simp at h⟩
      obtain ⟨i, c, q1, q2, q3⟩ := h1 x (by rw [hl]; exact hx)
      exact ⟨i + 1, c, by rw [q1, Nat.add_assoc, Nat.add_comm 1 i], by simpa using q2, q3⟩
    | none =>
      simp only
      by_cases hk : Key.l (nm d n) = k
      · rw [if_pos hk]
        refine ⟨fun x hx => ⟨0, b, hk.symm, by simp, by simpa using hx.symm⟩, fun h => by simp at h⟩
      · rw [if_neg hk]
        refine ⟨fun x hx => by simp at hx, fun _ i hi => ?_⟩
        cases i with
        | zero => exact fun e => hk e.symm
        | succ i => rw [show n + (i + 1) = n + 1 + i by omega]; exact h2 hl i (by simpa using hi)
theorem lastW_outW {ρ : Key → Option Key} {k : Key} : ∀ {κs : List Key} {bs : List Blk} {os : List (Option Blk)},
    (∀ x, lastW k (outW κs ρ bs os) = some x → ∃ (i : Nat) (b : Blk), κs[i]? = some k ∧ bs[i]? = some b ∧ b.own = true ∧ x = ((os[i]?).getD none).map (Blk.ren ρ)) ∧
    (∀ (i : Nat) (b : Blk), κs[i]? = some k → bs[i]? = some b → b.own = true → (lastW k (outW κs ρ bs os)).isSome = true)
  | [], bs, os => ⟨fun x h => by cases bs <;> cases os <;> simp [outW, lastW] at h, fun i b h => by simp at h⟩
  | k0 :: κs, [], os => ⟨fun x h => by cases os <;> simp [outW, lastW] at h, fun i b _ h => by simp at h⟩
  | k0 :: κs, b0 :: bs, os => by
    obtain ⟨h1, h2⟩ := lastW_outW (ρ := ρ) (k := k) (κs := κs) (bs := bs) (os := os.tail)
    have he : outW (k0 :: κs) ρ (b0 :: bs) os = if b0.own then (k0, ((os[0]?).getD none).map (Blk.ren ρ)) :: outW κs ρ bs os.tail else outW κs ρ bs os.tail := by
      cases os <;> rfl
    have hi : ∀ i, os.tail[i]? = os[i + 1]? := fun i => by cases os <;> simp
    have lift : ∀ x, lastW k (outW κs ρ bs os.tail) = some x → ∃ (i : Nat) (b : Blk), (k0 :: κs)[i]? = some k ∧ (b0 :: bs)[i]? = some b ∧ b.own = true ∧ x = ((os[i]?).getD none).map (Blk.ren ρ) := by
      intro x hx
      obtain ⟨i, b, q1, q2, q3, q4⟩ := h1 x hx
      exact ⟨i + 1, b, by simpa using q1, by simpa using q2, q3, by rw [q4, hi]⟩
    rw [he]
    by_cases ho : b0.own = true
    · rw [if_pos ho]
      simp only [lastW]
      cases hl : lastW k (outW κs ρ bs os.tail) with
      | some y =>
        refine ⟨fun x hx => lift x (by rw [hl]; exact hx), fun _ _ _ _ _ => rfl⟩
      | none =>
        simp only
        by_cases hk : k0 = k
        · subst hk; rw [if_pos rfl]
          exact ⟨fun x hx => ⟨0, b0, by simp, by simp, ho, by simpa using hx.symm⟩, fun _ _ _ _ _ => rfl⟩
        · rw [if_neg hk]
          refine ⟨fun x hx => by simp at hx, fun i b q1 q2 q3 => ?_⟩
          cases i with
          | zero => simp at q1; exact absurd q1 hk
          | succ i => have := h2 i b (by simpa using q1) (by simpa using q2) q3; rw [hl] at this; cases this
    · rw [if_neg ho]
      refine ⟨lift, fun i b q1 q2 q3 => ?_⟩
      cases i with
      | zero => simp at q2; subst q2; exact absurd q3 ho
      | succ i => exact h2 i b (by simpa using q1) (by simpa using q2) q3
theorem noTup_rel : ∀ {vs : List V} {us : List Value}, noTup vs = true → All2 (RelV j) vs us → All2 (RelV1 j) vs us
  | [], [], _, _ => trivial
  | .c _ :: r, _ :: _, h, hr => ⟨hr.1, noTup_rel (by simpa [noTup] using h) hr.2⟩
  | .agg _ :: r, _ :: _, h, hr => ⟨hr.1, noTup_rel (by simpa [noTup] using h) hr.2⟩
  | .tup _ :: r, _ :: _, h, _ => by simp [noTup] at h
theorem Cell.ren_nokeys {c : Cell} {ρ : Key → Option Key} (h : c.keys = []) : c.ren ρ = c := by
  cases c <;> simp [Cell.keys] at h <;> try rfl
  subst h; rfl
theorem cells_ren_nokeys {ρ : Key → Option Key} : ∀ {cs : List Cell}, cellsKeys cs = [] → cs.map (Cell.ren ρ) = cs
  | [], _ => rfl
  | c :: r, h => by
    simp only [cellsKeys, List.append_eq_nil_iff] at h
    simp [Cell.ren_nokeys h.1, cells_ren_nokeys h.2]
theorem vals_ren_nokeys {ρ : Key → Option Key} : ∀ {vs : List V}, valsKeys vs = [] → noTup vs = true → vs.map (V.ren1 ρ) = vs
  | [], _, _ => rfl
  | v :: r, h, ht => by
    simp only [valsKeys, List.append_eq_nil_iff] at h
    cases v with
    | c x => simp [noTup] at ht; simp only [List.map_cons, V.ren1, vals_ren_nokeys h.2 ht, Cell.ren_nokeys h.1]
    | agg cs => simp [noTup] at ht; simp only [List.map_cons, V.ren1, vals_ren_nokeys h.2 ht, cells_ren_nokeys h.1]
    | tup _ => simp [noTup] at ht
theorem fpCall_G {call : CallF} {get : Key → Option Blk} {d f : Nat} {vs : List V} {e : Eff} (h : fpCall call get d f vs = some e) :
    ∃ κs : List Key, noTup vs = true ∧ reach get 64 (valsKeys vs) [] = some κs ∧ fpCallG call get d f vs κs = some e := by
  unfold fpCall at h
  split at h
  · rename_i ht
    split at h
    · cases h
    · rename_i hr
      have hk : valsKeys vs = [] := by
        by_cases hk : valsKeys vs = []
        · exact hk
        · exact absurd rfl ((reach_spec hr (by simp)).2 (.inr hk))
      refine ⟨[], ht, hr, ?_⟩
      simp only [fpCallG, getAll, vals_ren_nokeys hk ht, List.map_nil]
      split at h <;> simp at h
      · rename_i v os hc
        subst h
        simp only [hc, List.length_nil, names, newW]
        have : outR [] d 0 = fun _ => none := by funext k; cases k <;> simp [outR]
        simp [this, outW]
      · rename_i v os news hne hc
        subst h
        simp [hc, outW]
    · rename_i κs hne hr
      exact ⟨κs, ht, hr, h⟩
  · cases h

/-- The callee's view, brought home. -/
theorem call_done {call : CallF} (hS : CallSound P call) {f d : Nat} {vs : List V} {us : List Value} (hv : All2 (RelV j) vs us) (hh : RelH j σ.get w) {e : Eff} (hf : fpCall call σ.get d f vs = some e) :
    (∃ fn, P.funcs[f]? = some fn ∧ fn.body.isSome = true ∧ fn.name ≠ "runtime.NumGoroutine") ∧ Calls P f us.toArray w fun x w' => ∃ v, x = .returned v ∧ ∃ j', Post j j' σ.get e v w w' := by
  obtain ⟨κs, ht, hre, hf⟩ := fpCall_G hf
  unfold fpCallG at hf
  split at hf
  · cases hf
  rename_i bs hbs
  split at hf <;> simp at hf
  rename_i v os news hc
  subst hf
  obtain ⟨hfn, hcall⟩ := hS f _ _ _ _ _ hc
  refine ⟨hfn, ?_⟩
  have hnd := (reach_spec hre (by simp)).1
  obtain ⟨hlen, hget⟩ := getAll_spec hbs
  let j1 : J := fun k => match k with | .o i => (κs[i]?).bind j | .l _ => none
  have hj1 : ∀ i k, κs[i]? = some k → j1 (.o i) = j k := fun i k h => by simp [j1, h]
  have hρ : ∀ k k', inR κs k = some k' → j1 k' = j k := fun k k' h => by
    obtain ⟨i, rfl, hi⟩ := inR_spec h; exact hj1 i k hi
  have hout : ∀ i b, outG (bs.map (Blk.ren (inR κs))) (.o i) = some b → ∃ k b0, κs[i]? = some k ∧ bs[i]? = some b0 ∧ σ.get k = some b0 ∧ b = b0.ren (inR κs) ∧ j1 (.o i) = j k := by
    intro i b h
    simp only [outG, List.getElem?_map, Option.map_eq_some_iff] at h
    obtain ⟨b0, h1, rfl⟩ := h
    have hi : i < κs.length := by
      rw [hlen]
      rcases Nat.lt_or_ge i bs.length with h | h
      · exact h
      · rw [List.getElem?_eq_none h] at h1; cases h1
    have hk : κs[i]? = some κs[i] := by simp [hi]
    exact ⟨κs[i], b0, hk, h1, by rw [hget i _ hk, h1], rfl, hj1 i _ hk⟩
  have hargs : All2 (RelV1 j1) (vs.map (V.ren1 (inR κs))) us := (All2.map _).2 ((noTup_rel ht hv).imp fun a b h => h.ren hρ)
  have hheap : RelH j1 (outG (bs.map (Blk.ren (inR κs)))) w := by
    refine ⟨?_, ?_, ?_⟩
    · intro k b hk hj
      cases k with
      | l s => simp [outG] at hk
      | o i => obtain ⟨k, b0, q1, q2, q3, rfl, q5⟩ := hout i b hk; exact Blk.ren_nil (hh.non k b0 q3 (by rw [← q5]; exact hj))
    · intro k b p hk hj
      cases k with
      | l s => simp [outG] at hk
      | o i => obtain ⟨k, b0, q1, q2, q3, rfl, q5⟩ := hout i b hk; exact (hh.som k b0 p q3 (by rw [← q5]; exact hj)).ren hρ
    · intro k k' b b' p p' hk hk' hne ho hj hj'
      cases k with
      | l s => simp [outG] at hk
      | o i => cases k' with
        | l s => simp [outG] at hk'
        | o i' =>
          obtain ⟨k, b0, q1, q2, q3, rfl, q5⟩ := hout i b hk
          obtain ⟨k', b0', q1', q2', q3', rfl, q5'⟩ := hout i' b' hk'
          refine hh.dis k k' b0 b0' p p' q3 q3' ?_ (by rwa [Blk.ren_own] at ho) (by rw [← q5]; exact hj) (by rw [← q5']; exact hj')
          intro e; subst e
          apply hne; congr 1
          have hlt : i < κs.length := by
            rcases Nat.lt_or_ge i κs.length with h | h
            · exact h
            · rw [List.getElem?_eq_none h] at q1; cases q1
          exact (List.getElem?_inj hlt hnd).1 (q1.trans q1'.symm)
  refine Calls.mono (hcall j1 w us hargs (fun _ => rfl) (fun v hv k hk => ?_) (fun b hb k hk => ?_) hheap) ?_
  · obtain ⟨v0, _, rfl⟩ := List.mem_map.1 hv
    obtain ⟨_, _, h⟩ := V.ren1_keys hk
    obtain ⟨i, h, _⟩ := inR_spec h
    exact ⟨i, h⟩
  · obtain ⟨b0, _, rfl⟩ := List.mem_map.1 hb
    obtain ⟨_, _, h⟩ := Blk.ren_keys hk
    obtain ⟨i, h, _⟩ := inR_spec h
    exact ⟨i, h⟩
  rintro x w' ⟨rv, j', rfl, hjo, hrv, hh', hfr, hnown, hnpl, hoown⟩
  refine ⟨rv, rfl, ?_⟩
  let m := news.length
  let ρ := outR κs d m
  classical
  let j2 : J := fun k => if h : ∃ i, i < m ∧ k = .l (nm d i) then j' (.l h.choose) else j k
  have hj2n : ∀ i, i < m → j2 (.l (nm d i)) = j' (.l i) := by
    intro i hi
    have h : ∃ i', i' < m ∧ Key.l (nm d i) = .l (nm d i') := ⟨i, hi, rfl⟩
    have : h.choose = i := by
      have := h.choose_spec.2
      injection this with this
      exact (nm_inj this).symm
    simp only [j2, dif_pos h, this]
  have hj2o : ∀ k, (∀ n ∈ names d m, k ≠ .l n) → j2 k = j k := by
    intro k hk
    have h : ¬ ∃ i, i < m ∧ k = .l (nm d i) := fun ⟨i, hi, e⟩ => hk _ (mem_names.2 ⟨i, hi, rfl⟩) e
    simp only [j2, dif_neg h]
  have hρ2 : ∀ k k', ρ k = some k' → j2 k' = j' k := by
    intro k k' h
    rcases outR_spec h with ⟨i, rfl, h1, h2⟩ | ⟨i, rfl, h1, rfl⟩
    · rw [hj2o k' h2, hjo, hj1 i k' h1]
    · exact hj2n i h1
  have key : ∀ k x, lastW k (outW κs ρ bs os ++ newW d ρ 0 news) = some x →
      (∃ i c, k = .l (nm d i) ∧ news[i]? = some c ∧ i < m ∧ x = some (c.ren ρ)) ∨ ((∀ n ∈ names d m, k ≠ .l n) ∧ ∃ (i : Nat) (b : Blk), κs[i]? = some k ∧ bs[i]? = some b ∧ b.own = true ∧ x = ((os[i]?).getD none).map (Blk.ren ρ)) := by
    intro k x h
    rw [lastW_append] at h
    cases hl : lastW k (newW d ρ 0 news) with
    | some y =>
      rw [hl] at h
      obtain ⟨i, c, q1, q2, q3⟩ := lastW_newW.1 x (by rw [hl]; exact h)
      refine .inl ⟨i, c, by simpa using q1, q2, ?_, q3⟩
      rcases Nat.lt_or_ge i news.length with h | h
      · exact h
      · rw [List.getElem?_eq_none h] at q2; cases q2
    | none =>
      rw [hl] at h
      refine .inr ⟨fun n hn e => ?_, lastW_outW.1 x h⟩
      obtain ⟨i, hi, rfl⟩ := mem_names.1 hn
      exact lastW_newW.2 hl i hi (by simpa using e)
  have key2 : ∀ k b, lastW k (outW κs ρ bs os ++ newW d ρ 0 news) = some (some b) → ∃ q c, resG os news q = some c ∧ b = c.ren ρ ∧ j2 k = j' q ∧ b.own = true ∧
      ((∃ i, q = .l i ∧ k = .l (nm d i)) ∨ (∃ i, q = .o i ∧ κs[i]? = some k)) ∧ (∀ p, j' q = some p → w.heap.size ≤ p.block ∨ ownB j1 (bs.map (Blk.ren (inR κs))) p.block) := by
    intro k b h
    rcases key k _ h with ⟨i, c, rfl, h1, h2, h3⟩ | ⟨h1, i, b0, h2, h3, h4, h5⟩
    · simp at h3; subst h3
      exact ⟨.l i, c, h1, rfl, hj2n i h2, by rw [Blk.ren_own]; exact hnown c (List.mem_of_getElem? h1), .inl ⟨i, rfl, rfl⟩, fun p hp => hnpl i c p h1 hp⟩
    · have h5 := h5.symm
      simp only [Option.map_eq_some_iff] at h5
      obtain ⟨c, h6, rfl⟩ := h5
      clear h5
      have hb : (bs.map (Blk.ren (inR κs)))[i]? = some (b0.ren (inR κs)) := by simp [h3]
      refine ⟨.o i, c, h6, rfl, by rw [hj2o k h1, hjo, hj1 i k h2], ?_, .inr ⟨i, rfl, h2⟩, fun p hp => .inr ⟨i, _, p, hb, by rw [Blk.ren_own]; exact h4, ?_, rfl⟩⟩
      · rw [Blk.ren_own]
        refine hoown i _ c hb (by rw [Blk.ren_own]; exact h4) ?_
        cases ho : os[i]? with
        | none => simp [ho] at h6
        | some y => simp [ho] at h6; rw [h6]
      · rw [← hjo]; exact hp
  have hown : ∀ n, ownB j1 (bs.map (Blk.ren (inR κs))) n → ∃ k b p, σ.get k = some b ∧ b.own = true ∧ j k = some p ∧ p.block = n ∧ (lastW k (outW κs ρ bs os ++ newW d ρ 0 news)).isSome = true := by
    rintro n ⟨i, b, p, h1, h2, h3, h4⟩
    obtain ⟨k, b0, q1, q2, q3, rfl, q5⟩ := hout i b h1
    refine ⟨k, b0, p, q3, by rwa [Blk.ren_own] at h2, by rw [← q5]; exact h3, h4, ?_⟩
    rw [lastW_append]
    have := (lastW_outW (ρ := ρ) (k := k) (κs := κs) (bs := bs) (os := os)).2 i b0 q1 q2 (by rwa [Blk.ren_own] at h2)
    cases lastW k (newW d ρ 0 news) <;> simp [this]
  refine ⟨j2, hj2o, hrv.ren hρ2, ?_, ?_, ?_, ?_, ?_, ?_⟩
  · intro k b h hn
    obtain ⟨q, c, q1, rfl, q3, _⟩ := key2 k b h
    exact Blk.ren_nil (hh'.non q c q1 (by rw [← q3]; exact hn))
  · intro k b p h hp
    obtain ⟨q, c, q1, rfl, q3, _⟩ := key2 k b h
    exact (hh'.som q c p q1 (by rw [← q3]; exact hp)).ren hρ2
  · intro k k' b b' p p' h h' hne ho hp hp'
    obtain ⟨q, c, q1, rfl, q3, _, q4, _⟩ := key2 k b h
    obtain ⟨q', c', q1', rfl, q3', _, q4', _⟩ := key2 k' b' h'
    refine hh'.dis q q' c c' p p' q1 q1' ?_ (by rwa [Blk.ren_own] at ho) (by rw [← q3]; exact hp) (by rw [← q3']; exact hp')
    intro e; subst e
    apply hne
    rcases q4 with ⟨i, rfl, rfl⟩ | ⟨i, rfl, q4⟩ <;> rcases q4' with ⟨i', e', rfl⟩ | ⟨i', e', q4'⟩ <;> cases e'
    · rfl
    · rw [q4] at q4'; exact Option.some.inj q4'
  · intro k b h
    exact (key2 k b h).choose_spec.choose_spec.2.2.2.1
  · exact ⟨hfr.os, hfr.tape, hfr.output, hfr.size, fun i hi hn => hfr.block i hi fun ho => hn (hown i ho)⟩
  · intro k b p h hp
    obtain ⟨q, c, q1, rfl, q3, _, _, q5⟩ := key2 k b h
    rcases q5 p (by rw [← q3]; exact hp) with h | h
    · exact .inl h
    · exact .inr (hown _ h)

theorem op_call (hr : Rel nt w0 W j σ a w) {call : CallF} (hS : CallSound P call) {c : Call} {f : Nat} {ss : List Src} (h : o.op = .call c) (hc : c.callee = .value (.func f)) (hs : srcsOf c.args.toList = some ss)
    {d : Nat} {e : Eff} (hf : fp call σ.ev σ.get d (.call f ss) = some e) : Goal P j σ a w o e := by
  simp only [fp] at hf
  obtain ⟨⟨fn, q1, q2, q3⟩, q4⟩ := call_done (w := w) hS (srcs_rel hr hs) hr.hp hf
  refine .inr (.inr ⟨f, (c.args.toList.map a.eval).toArray, w, ?_, Calls.mono q4 fun x w' hx => hx⟩)
  have ha : (c.args.toList.map a.eval).toArray = c.args.map a.eval := by apply Array.ext'; simp
  obtain ⟨body, hb⟩ := Option.isSome_iff_exists.1 q2
  simp [execOp, h, resolve, hc, Act.eval, Deferred.ofValue, invoke, callFunc, q1, q3, hb, ← ha]
theorem op_callv (hr : Rel nt w0 W j σ a w) {call : CallF} (hS : CallSound P call) {c : Call} {x : Operand} {s : Src} {ss : List Src} (h : o.op = .call c) (hc : c.callee = .value x) (hx : srcOf x = some s) (hs : srcsOf c.args.toList = some ss)
    {d : Nat} {e : Eff} (hf : fp call σ.ev σ.get d (.callv s ss) = some e) : Goal P j σ a w o e := by
  simp only [fp] at hf
  split at hf
  · rename_i g l hg
    have hv := src_rel hr hx
    rw [hg] at hv
    obtain ⟨vs, hv, hl⟩ := hv
    have hl2 : All2 (RelV j) (l.map fun p => V.c (.ptr p)) vs := (All2.map _).2 hl
    obtain ⟨⟨fn, q1, q2, q3⟩, q4⟩ := call_done (w := w) hS ((srcs_rel hr hs).append hl2) hr.hp hf
    refine .inr (.inr ⟨g, (c.args.toList.map a.eval ++ vs).toArray, w, ?_, Calls.mono q4 fun x w' hx => hx⟩)
    obtain ⟨body, hb⟩ := Option.isSome_iff_exists.1 q2
    have ha : (c.args.toList.map a.eval ++ vs).toArray = c.args.map a.eval ++ vs.toArray := by apply Array.ext'; simp
    simp [execOp, h, resolve, hc, hv, Deferred.ofValue, invoke, callFunc, q1, q3, hb, ← ha]
  · cases hf
end Go.Ab

namespace Go.Ab
variable {P : Program} {nt : Nat} {w0 : World} {W : Wr} {j : J} {σ : St} {a : Act} {w : World} {o : Oper}

theorem vOfV_int {v : Value} {k : IntKind} {n : Int} (h : vOfV v = some (.c (.int k n))) : v = .int k n := by
  unfold vOfV at h
  split at h
  · simp [Option.map_eq_some_iff] at h
  · simp only [Option.map_eq_some_iff] at h
    obtain ⟨c, h1, h2⟩ := h
    injection h2 with h2
    subst h2
    unfold cellOfV at h1
    split at h1 <;> simp at h1
    obtain ⟨_, rfl, rfl⟩ := h1; rfl
theorem src_tmp {x : Operand} {i : Nat} (h : srcOf x = some (.t i)) : x = .tmp i := by
  unfold srcOf at h
  split at h <;> simp at h
  subst h; rfl
theorem src_int {x : Operand} {k : IntKind} {n : Int} (h : srcOf x = some (.v (.c (.int k n)))) : x = .const (.int k n) := by
  unfold srcOf at h
  split at h <;> simp at h
  rw [vOfV_int h]
theorem three : ∀ {xs : List Operand} {s1 s2 s3 : Src}, srcsOf xs = some [s1, s2, s3] → ∃ x y z, xs = [x, y, z] ∧ srcOf x = some s1 ∧ srcOf y = some s2 ∧ srcOf z = some s3 := by
  have one : ∀ {x : Operand} {r : List Operand} {ss : List Src}, srcsOf (x :: r) = some ss → ∃ s r', ss = s :: r' ∧ srcOf x = some s ∧ srcsOf r = some r' := by
    intro x r ss h
    simp only [srcsOf] at h
    split at h <;> simp at h
    rename_i h1 h2; subst h
    exact ⟨_, _, rfl, h1, h2⟩
  intro xs s1 s2 s3 h
  match xs with
  | [] => simp [srcsOf] at h
  | [x] => obtain ⟨_, _, h1, _, h2⟩ := one h; simp [srcsOf] at h2; subst h2; cases h1
  | [x, y] =>
    obtain ⟨_, _, h1, _, h2⟩ := one h
    obtain ⟨_, _, h3, _, h4⟩ := one h2
    simp [srcsOf] at h4; subst h4; subst h3; cases h1
  | x :: y :: z :: r =>
    obtain ⟨_, _, h1, q1, h2⟩ := one h
    obtain ⟨_, _, h3, q2, h4⟩ := one h2
    obtain ⟨_, _, h5, q3, h6⟩ := one h4
    subst h5; subst h3; simp at h1
    obtain ⟨rfl, rfl, rfl, rfl⟩ := h1
    cases r with
    | nil => exact ⟨x, y, z, rfl, q1, q2, q3⟩
    | cons y r => obtain ⟨_, _, h7, _⟩ := one h6; cases h7
theorem op_lenA {c : Call} {x : Operand} {t E : TypeId} {n : Nat} (hr : Rel nt w0 W j σ a w) (h : o.op = .call c) (hb : c.callee = .builtin .len) (hx : c.args.toList = [x]) (ht : c.argTypes[0]? = some t) (hu : P.underlying t = some (.array n E)) (hn : n ≤ 1000000)
    {call : CallF} {d : Nat} {e : Eff} (hf : fp call σ.ev σ.get d (.mv (.v (.c (.int .i64 n)))) = some e) : Goal P j σ a w o e := by
  have hargs : c.args = #[x] := by rw [← Array.toList_inj]; simpa using hx
  simp [fp, pure1] at hf; subst hf
  have ht' : c.argTypes.getD 0 0 = t := by simp [Array.getD_eq_getD_getElem?, ht]
  refine done_val (v := .int .i64 n) ?_ ⟨rfl, ?_⟩
  · simp [execOp, h, resolve, hb, invoke, builtin, Builtin.len_, hargs, ht, run_under hu, goInt]
  · constructor <;> simp [IntKind.min, IntKind.max, IntKind.signed, IntKind.bits] <;> omega

theorem op_sound (hr : Rel nt w0 W j σ a w) {call : CallF} (hS : CallSound P call) {h io : IOp} (hc : compOp P h o.op = some io) {d : Nat} (hd : preK io = true → d ∉ σ.cr) {e : Eff} (hf : fp call σ.ev σ.get d io = some e) : Goal P j σ a w o e := by
  cases ho : o.op <;> rw [ho] at hc <;> simp only [compOp] at hc <;> try (simp at hc; done)
  case move x =>
    simp only [Option.map_eq_some_iff] at hc
    obtain ⟨s, h1, rfl⟩ := hc
    exact op_mv hr (.inl ho) h1 hf
  case assign x =>
    simp only [Option.map_eq_some_iff] at hc
    obtain ⟨s, h1, rfl⟩ := hc
    exact op_mv hr (.inr ho) h1 hf
  case pick =>
    split at hc <;> simp at hc
    subst hc; rename_i h1 h2 h3
    exact op_pick hr ho h1 h2 h3 hf
  case alloc =>
    split at hc <;> simp at hc
    subst hc; rename_i h1 h2
    exact op_new ho h1 hf
  case box =>
    split at hc <;> simp at hc
    subst hc; rename_i h1 h2
    exact op_box hr ho h1 (hd rfl) hf
  case build =>
    split at hc
    · rename_i h1 h2
      split at hc
      · rename_i h3
        simp only [Option.map_eq_some_iff] at hc
        obtain ⟨ss, h4, rfl⟩ := hc
        exact op_build hr ho h1 (.inl ⟨_, _, h2, h3, h4⟩) hf
      · cases hc
    · rename_i h1 h2
      split at hc
      · rename_i h3
        simp only [Option.map_eq_some_iff] at hc
        obtain ⟨ss, h4, rfl⟩ := hc
        exact op_build hr ho h1 (.inr ⟨_, _, _, h2, h3, h4⟩) hf
      · cases hc
    · cases hc
  case buildSlice =>
    split at hc
    · rename_i h1
      split at hc
      · rename_i h2 h3 h4
        split at hc <;> simp at hc
        subst hc; rename_i h5
        exact op_bsl hr ho h1 h2 h3 h4 h5.1 h5.2.1 h5.2.2 (hd rfl) hf
      · cases hc
    · cases hc
  case load =>
    split at hc <;> simp at hc
    subst hc; rename_i h1 h2
    exact op_load hr ho h1 h2 hf
  case store =>
    split at hc <;> simp at hc
    subst hc; rename_i h1 h2 h3
    exact op_store hr ho h1 h2 h3 hf
  case nilCheck =>
    simp only [Option.map_eq_some_iff] at hc
    obtain ⟨s, h1, rfl⟩ := hc
    exact op_nilchk hr ho h1 hf
  case binOp op t x y yt =>
    split at hc
    · simp at hc; subst hc; rename_i h1 h2 h3
      exact op_bin hr ho h2 h3 hf
    · rename_i h1 h2 h3
      split at hc
      · rename_i q1 q2
        split at hc <;> simp at hc
        subst hc; rename_i q3
        exact op_eqa (neg := false) hr (by assumption) q2 q1 (by simpa using q3) h2 h3 (by rw [h1]; intro k h; cases h) hf
      · rename_i q1 q2
        split at hc <;> simp at hc
        subst hc; rename_i q3
        exact op_eqa (neg := true) hr (by assumption) q2 q1 (by simpa using q3) h2 h3 (by rw [h1]; intro k h; cases h) hf
      · cases hc
    · rename_i h1 h2 h3
      split at hc
      · rename_i q1 q2
        split at hc <;> simp at hc
        subst hc; rename_i q3
        exact op_eqa (neg := false) hr (by assumption) q2 q1 (by simpa using q3) h2 h3 (by rw [h1]; intro k h; cases h) hf
      · rename_i q1 q2
        split at hc <;> simp at hc
        subst hc; rename_i q3
        exact op_eqa (neg := true) hr (by assumption) q2 q1 (by simpa using q3) h2 h3 (by rw [h1]; intro k h; cases h) hf
      · cases hc
    · rename_i h1 h2 h3
      split at hc
      · rename_i q1 q2
        split at hc <;> simp at hc
        subst hc; rename_i q3
        exact op_eqa (neg := false) hr (by assumption) q2 q1 (by simpa using q3) h2 h3 (by rw [h1]; intro k h; cases h) hf
      · rename_i q1 q2
        split at hc <;> simp at hc
        subst hc; rename_i q3
        exact op_eqa (neg := true) hr (by assumption) q2 q1 (by simpa using q3) h2 h3 (by rw [h1]; intro k h; cases h) hf
      · cases hc
    · cases hc
  case unOp =>
    simp only [Option.map_eq_some_iff] at hc
    obtain ⟨s, h1, rfl⟩ := hc
    exact op_un hr ho h1 hf
  case convert =>
    split at hc <;> simp at hc
    subst hc; rename_i h1 h2 h3
    exact op_conv hr ho h1 h2 h3 hf (wrap_in _)
  case makeFunc fn first cap =>
    cases fn <;> simp at hc
    split at hc <;> simp at hc
    subst hc; rename_i h1 h2
    exact op_fn hr ho (by simpa using h1) h2 hf
  case makeSlice t x y =>
    split at hc
    · rename_i h1 h2 h3
      split at hc
      · rename_i h4 h5 h6
        split at hc
        · split at hc <;> simp at hc
          rename_i hi
          subst hc; subst hi
          exact op_msl hr ho h1 h4 h5 h6 h2 (by rw [src_tmp h2, src_tmp h3]) hf
        · split at hc <;> simp at hc
          rename_i hi
          obtain ⟨rfl, rfl⟩ := hi
          subst hc
          exact op_msl hr ho h1 h4 h5 h6 h2 (by rw [src_int h2, src_int h3]) hf
        · cases hc
      · cases hc
    · cases hc
  case slice t x lo hi mx =>
    split at hc
    · rename_i h1 h2
      split at hc
      · simp at hc; subst hc; rename_i h3
        exact op_sl hr ho h1 h3 h2 (.inl ⟨rfl, rfl⟩) (.inl ⟨rfl, rfl⟩) hf
      · rename_i h3
        simp only [Option.map_eq_some_iff] at hc
        obtain ⟨l, h4, rfl⟩ := hc
        exact op_sl hr ho h1 h3 h2 (.inr ⟨_, _, rfl, rfl, h4⟩) (.inl ⟨rfl, rfl⟩) hf
      · rename_i h3
        simp only [Option.map_eq_some_iff] at hc
        obtain ⟨l, h4, rfl⟩ := hc
        exact op_sl hr ho h1 h3 h2 (.inl ⟨rfl, rfl⟩) (.inr ⟨_, _, rfl, rfl, h4⟩) hf
      · rename_i h3
        split at hc <;> simp at hc
        subst hc; rename_i h4 h5
        exact op_sl hr ho h1 h3 h2 (.inr ⟨_, _, rfl, rfl, h4⟩) (.inr ⟨_, _, rfl, rfl, h5⟩) hf
      · cases hc
    · cases hc
  case fieldAddr =>
    split at hc
    · rename_i h1 h2
      split at hc
      · rename_i h3
        split at hc
        · split at hc <;> simp at hc
          rename_i h4 h5
          subst hc
          exact op_faddr hr ho h1 h3 h4 h5 h2 hf
        · cases hc
      · cases hc
    · cases hc
  case field =>
    split at hc
    · rename_i h1 h2
      split at hc
      · rename_i h3
        simp only [Option.map_eq_some_iff] at hc
        obtain ⟨⟨g, n⟩, h4, rfl⟩ := hc
        exact op_field hr ho h1 h3 h4 h2 hf
      · cases hc
    · cases hc
  case indexAddr =>
    split at hc
    · rename_i h1 h2 h3
      simp only [Option.map_eq_some_iff] at hc
      obtain ⟨n, h4, rfl⟩ := hc
      exact op_iaddr hr ho h1 h4 h2 h3 hf
    · rename_i h1 h2 h3
      split at hc
      · rename_i h4
        split at hc <;> simp at hc
        subst hc
        exact op_iaddrA hr ho h1 h4 h2 h3 hf
      · cases hc
    · cases hc
  case index =>
    split at hc
    · rename_i h1 h2 h3
      simp only [Option.map_eq_some_iff] at hc
      obtain ⟨⟨g, n⟩, h4, rfl⟩ := hc
      exact op_index hr ho h1 h4 h2 h3 hf
    · cases hc
  case extract =>
    simp only [Option.map_eq_some_iff] at hc
    obtain ⟨s, h1, rfl⟩ := hc
    exact op_ext hr ho h1 hf
  case call c =>
    split at hc
    · rename_i hb
      split at hc
      · rename_i h1 h2
        split at hc
        · rename_i h3
          simp only [Option.map_eq_some_iff] at hc
          obtain ⟨s, h4, rfl⟩ := hc
          exact op_len hr ho hb h1 h2 h3 h4 hf
        · rename_i h3
          split at hc <;> simp at hc
          subst hc; rename_i h4
          exact op_lenA hr ho hb h1 h2 h3 h4 hf
        · cases hc
      · cases hc
    · rename_i hb
      split at hc
      · rename_i h1
        split at hc <;> simp at hc
        subst hc; rename_i h2 h3
        exact op_mm (mx := true) hr ho hb h1 h2 h3 hf
      · cases hc
    · rename_i hb
      split at hc
      · rename_i h1
        split at hc <;> simp at hc
        subst hc; rename_i h2 h3
        exact op_mm (mx := false) hr ho hb h1 h2 h3 hf
      · cases hc
    · rename_i hb
      split at hc
      · rename_i h1 h2
        split at hc
        · rename_i h3 h4 h5 h6
          split at hc
          · rename_i h7 h8 h9
            split at hc <;> simp at hc
            subst hc; rename_i h10
            exact op_app hr ho hb h1 h2 h3 ⟨_, h4⟩ h7 h8 h9 h10.1 h5 h6 hf
          · cases hc
        · cases hc
      · cases hc
    · rename_i f hb
      split at hc
      · rename_i fn l h1 h2
        split at hc
        · simp at hc; subst hc
          exact op_call hr hS ho hb h2 hf
        · rename_i hbody
          split at hc
          · rename_i hn
            split at hc <;> simp at hc
            subst hc
            obtain ⟨x, y, z, ha, s1, s2, s3⟩ := three h2
            exact op_carry (sub := false) hr ho hb h1 (by simpa using hbody) hn.1 hn.2 ha s1 s2 s3 hf
          · split at hc
            · rename_i hn
              split at hc <;> simp at hc
              subst hc
              obtain ⟨x, y, z, ha, s1, s2, s3⟩ := three h2
              exact op_carry (sub := true) hr ho hb h1 (by simpa using hbody) hn.1 hn.2 ha s1 s2 s3 hf
            · cases hc
      · cases hc
    · rename_i hb
      split at hc <;> simp at hc
      subst hc; rename_i h1 h2
      exact op_callv hr hS ho hb h1 h2 hf
    · cases hc
end Go.Ab

namespace Go.Ab

theorem keysOf_append (a b : List (Key × Option Blk)) : keysOf (a ++ b) = keysOf a ++ keysOf b := by
  induction a with
  | nil => rfl
  | cons x r ih => obtain ⟨k, y⟩ := x; simp [keysOf, ih]
theorem lastW_keysOf {k : Key} : ∀ {ws : List (Key × Option Blk)}, (lastW k ws).isSome = true ↔ k ∈ keysOf ws
  | [] => by simp [lastW, keysOf]
  | (k', b) :: r => by
    have ih := lastW_keysOf (k := k) (ws := r)
    simp only [lastW, keysOf, List.mem_cons]
    cases h : lastW k r with
    | some x => rw [h] at ih; simp at ih; simp [ih]
    | none =>
      rw [h] at ih; simp at ih
      by_cases hk : k' = k
      · subst hk; simp
      · simp [hk, ih, Ne.symm hk]
theorem newW_keys {d : Nat} {ρ : Key → Option Key} : ∀ {news : List Blk} {n : Nat} {i : Nat}, i < news.length → Key.l (nm d (n + i)) ∈ keysOf (newW d ρ n news)
  | b :: r, n, 0, _ => by simp [newW, keysOf]
  | b :: r, n, i + 1, h => by
    have := newW_keys (d := d) (ρ := ρ) (news := r) (n := n + 1) (i := i) (by simpa using h)
    simp only [newW, keysOf, List.mem_cons]
    right; rw [show n + (i + 1) = n + 1 + i by omega]; exact this

/-- What a successful operation is bound to. -/
structure Tame (get : Key → Option Blk) (d : Nat) (op : IOp) (e : Eff) : Prop where
  nw : ∀ n ∈ e.n, Key.l n ∈ keysOf e.w
  pre : preK op = true → e.n = [d]
  pure : isMem op = false → e.r = [] ∧ e.w = [] ∧ e.n = []
  load : isLoad op = true → e.w = [] ∧ e.n = []
  maker : isMaker op = false → e.n = []
  wr : ∀ k ∈ keysOf e.w, (get k).isSome = true ∨ ∃ n ∈ e.n, k = .l n
theorem fpCall_tame {call : CallF} {get : Key → Option Blk} {d f : Nat} {vs : List V} {e : Eff} (h : fpCall call get d f vs = some e) :
    (∀ n ∈ e.n, Key.l n ∈ keysOf e.w) ∧ (∀ k ∈ keysOf e.w, (get k).isSome = true ∨ ∃ n ∈ e.n, k = .l n) := by
  obtain ⟨κs, _, _, h⟩ := fpCall_G h
  unfold fpCallG at h
  split at h
  · cases h
  rename_i bs hbs
  split at h <;> simp at h
  subst h
  rename_i v os news hc
  refine ⟨fun n hn => ?_, fun k hk => ?_⟩
  · obtain ⟨i, hi, rfl⟩ := mem_names.1 hn
    simp only [keysOf_append, List.mem_append]
    right; simpa using newW_keys (d := d) (ρ := outR κs d news.length) (news := news) (n := 0) hi
  · simp only [keysOf_append, List.mem_append] at hk
    rcases hk with hk | hk
    · obtain ⟨x, hx⟩ := Option.isSome_iff_exists.1 (lastW_keysOf.2 hk)
      obtain ⟨i, b, q1, q2, _⟩ := lastW_outW.1 x hx
      left; rw [(getAll_spec hbs).2 i k q1, q2]; rfl
    · obtain ⟨x, hx⟩ := Option.isSome_iff_exists.1 (lastW_keysOf.2 hk)
      obtain ⟨i, c, q1, q2, _⟩ := lastW_newW.1 x hx
      right
      refine ⟨nm d i, mem_names.2 ⟨i, ?_, rfl⟩, by simpa using q1⟩
      rcases Nat.lt_or_ge i news.length with h | h
      · exact h
      · rw [List.getElem?_eq_none h] at q2; cases q2
theorem tame_pure {get : Key → Option Blk} {d : Nat} {op : IOp} {v : V} (h : preK op = false) : Tame get d op ⟨v, [], [], []⟩ :=
  ⟨fun _ h => by simp at h, fun h' => by (rw [h] at h'; cases h'), fun _ => ⟨rfl, rfl, rfl⟩, fun _ => ⟨rfl, rfl⟩, fun _ => rfl, fun _ h => by simp [keysOf] at h⟩
theorem fp_tame {call : CallF} {ρ : Src → V} {get : Key → Option Blk} {d : Nat} {op : IOp} {e : Eff} (h : fp call ρ get d op = some e) : Tame get d op e := by
  cases op <;> simp only [fp] at h
  case call f args => exact ⟨(fpCall_tame h).1, fun h => by simp [preK] at h, fun h => by simp [isMem] at h, fun h => by simp [isLoad] at h, fun h => by simp [isMaker] at h, (fpCall_tame h).2⟩
  case callv f args =>
    split at h
    · exact ⟨(fpCall_tame h).1, fun h => by simp [preK] at h, fun h => by simp [isMem] at h, fun h => by simp [isLoad] at h, fun h => by simp [isMaker] at h, (fpCall_tame h).2⟩
    · cases h
  all_goals (repeat' split at h) <;> (try (simp at h; done)) <;> (try simp only [pure1, Option.some.injEq] at h)
  all_goals first
    | (subst h; exact tame_pure rfl)
    | (simp only [Option.map_eq_some_iff] at h; obtain ⟨v, _, rfl⟩ := h; first | exact tame_pure rfl | (refine ⟨?_, ?_, ?_, ?_, ?_, ?_⟩ <;> simp [keysOf, preK, isMem, isLoad, isMaker]; done))
    | (subst h; refine ⟨?_, ?_, ?_, ?_, ?_, ?_⟩ <;> simp [keysOf, preK, isMem, isLoad, isMaker, *]; done)
    | skip

/-! ### Only what is looked at matters -/
theorem reach_acc {get : Key → Option Blk} : ∀ {n : Nat} {ks acc κs : List Key}, reach get n ks acc = some κs → ∀ k ∈ acc, k ∈ κs
  | n, [], acc, κs, h, k, hk => by
    have : acc = κs := by cases n <;> simpa [reach] using h
    exact this ▸ hk
  | 0, _ :: _, acc, κs, h, k, hk => by simp [reach] at h
  | n + 1, k0 :: ks, acc, κs, h, k, hk => by
    simp only [reach] at h
    split at h
    · exact reach_acc h k hk
    · split at h
      · cases h
      · exact reach_acc h k (by simp [hk])
theorem reach_local {get get' : Key → Option Blk} : ∀ {n : Nat} {ks acc κs : List Key}, reach get n ks acc = some κs → (∀ k ∈ κs, get' k = get k) → reach get' n ks acc = some κs
  | n, [], acc, κs, h, _ => by cases n <;> simpa [reach] using h
  | 0, _ :: _, acc, κs, h, _ => by simp [reach] at h
  | n + 1, k0 :: ks, acc, κs, h, hg => by
    simp only [reach] at h ⊢
    split at h
    · rename_i hc; rw [if_pos hc]; exact reach_local h hg
    · rename_i hc
      rw [if_neg hc]
      split at h
      · cases h
      · rename_i b hb
        rw [hg k0 (reach_acc h k0 (by simp)), hb]
        exact reach_local h hg
theorem getAll_local {get get' : Key → Option Blk} : ∀ {κs : List Key}, (∀ k ∈ κs, get' k = get k) → getAll get' κs = getAll get κs
  | [], _ => rfl
  | k :: r, h => by
    have h2 : getAll get' r = getAll get r := getAll_local fun k hk => h k (by simp [hk])
    simp only [getAll, h k (by simp), h2]
theorem fpCall_local {call : CallF} {get get' : Key → Option Blk} {d f : Nat} {vs : List V} {e : Eff} (h : fpCall call get d f vs = some e) (hg : ∀ k ∈ e.r, get' k = get k) : fpCall call get' d f vs = some e := by
  obtain ⟨κs, h1, h2, h3⟩ := fpCall_G h
  have hr : e.r = κs := by
    unfold fpCallG at h3
    split at h3
    · cases h3
    split at h3 <;> simp at h3
    subst h3; rfl
  rw [hr] at hg
  have e1 := reach_local h2 hg
  unfold fpCall at h ⊢
  rw [if_pos h1] at h ⊢
  rw [h2] at h
  rw [e1]
  cases κs with
  | nil => exact h
  | cons k r =>
    simp only [fpCallG] at h ⊢
    rw [getAll_local hg]; exact h
theorem fillC_local {ρ ρ' : Src → V} : ∀ {ps : List (Nat × Nat × Src)} {z : List Cell}, (∀ s ∈ ps.map (·.2.2), ρ' s = ρ s) → fillC ρ' z ps = fillC ρ z ps
  | [], _, _ => rfl
  | (off, n, x) :: r, z, h => by
    simp only [fillC, h x (by simp)]
    split
    · split
      · exact fillC_local fun s hs => h s (by simp at hs ⊢; exact .inr hs)
      · rfl
    · rfl
theorem srcs_local {ρ ρ' : Src → V} : ∀ {ss : List Src}, (∀ s ∈ ss, ρ' s = ρ s) → srcs ρ' ss = srcs ρ ss
  | [], _ => rfl
  | x :: r, h => by
    have h2 : srcs ρ' r = srcs ρ r := srcs_local fun s hs => h s (by simp [hs])
    simp only [srcs, h x (by simp), h2]
theorem slB_local {ρ ρ' : Src → V} {n : Nat} {lo hi : Option Src} (h1 : ∀ s, lo = some s → ρ' s = ρ s) (h2 : ∀ s, hi = some s → ρ' s = ρ s) : slB ρ' n lo hi = slB ρ n lo hi := by
  cases lo <;> cases hi <;> simp only [slB] <;> simp [h1, h2]
theorem rowsOf_local {get get' : Key → Option Blk} {sz : Nat} {v : V} {ks : List Key} {xs : List (List Cell)} (h : rowsOf get sz v = some (ks, xs)) (hg : ∀ k ∈ ks, get' k = get k) : rowsOf get' sz v = some (ks, xs) := by
  unfold rowsOf at h ⊢
  split at h
  · exact h
  · rename_i k z i n
    split at h
    · rename_i b hb
      split at h <;> simp at h
      obtain ⟨rfl, rfl⟩ := h
      rename_i hc
      rw [hg k (by simp), hb]; simp [hc]
    · cases h
  · cases h
theorem fp_local {call : CallF} {ρ ρ' : Src → V} {get get' : Key → Option Blk} {d : Nat} {op : IOp} {e : Eff} (h : fp call ρ get d op = some e) (hρ : ∀ s ∈ op.srcs, ρ' s = ρ s) (hg : ∀ k ∈ e.r, get' k = get k) : fp call ρ' get' d op = some e := by
  cases op <;> simp only [IOp.srcs, List.mem_cons, List.not_mem_nil, or_false, forall_eq_or_imp, forall_eq] at hρ
  case call f args => simp only [fp] at h ⊢; rw [srcs_local hρ]; exact fpCall_local h hg
  case callv f args =>
    simp only [fp] at h ⊢
    rw [hρ.1]
    split at h
    · rw [srcs_local hρ.2]; exact fpCall_local h hg
    · cases h
  case build z ps => simp only [fp] at h ⊢; rw [fillC_local hρ]; exact h
  case bsl => simp only [fp] at h ⊢; rw [srcs_local hρ]; exact h
  case fn => simp only [fp] at h ⊢; rw [srcs_local hρ]; exact h
  case sl sz x lo hi =>
    have h1 : ∀ s, lo = some s → ρ' s = ρ s := fun s hs => hρ.2 s (by simp [hs])
    have h2 : ∀ s, hi = some s → ρ' s = ρ s := fun s hs => hρ.2 s (by simp [hs])
    simp only [fp] at h ⊢
    rw [hρ.1]
    simp only [slB_local h1 h2]; exact h
  case load g n a =>
    simp only [fp] at h ⊢
    rw [hρ]
    split at h
    · rename_i p hp
      split at h
      · rename_i b hb
        have hk : e.r = [p.k] := by
          split at h
          · split at h
            · simp only [Option.map_eq_some_iff] at h; obtain ⟨v, _, rfl⟩ := h; rfl
            · cases h
          · cases h
        rw [hk] at hg
        simp only [hp, hg p.k (by simp), hb]; exact h
      · cases h
    · cases h
  case store n a x =>
    simp only [fp] at h ⊢
    rw [hρ.1, hρ.2]
    split at h
    · rename_i p xs hp hx
      split at h
      · rename_i b hb
        have hk : e.r = [p.k] := by
          split at h
          · split at h
            · simp at h; subst h; rfl
            · cases h
          · cases h
        rw [hk] at hg
        simp only [hp, hx, hg p.k (by simp), hb]; exact h
      · cases h
    · cases h
  case app T sz bytes pl s x =>
    simp only [fp] at h ⊢
    rw [hρ.1, hρ.2]
    split at h
    · rename_i ks xs h1 h2
      split at h <;> simp at h
      rename_i hc
      subst h
      rw [h1, rowsOf_local h2 hg]; simp [hc]
    · rename_i k z i n ks xs h1 h2
      split at h
      · rename_i b hb
        split at h <;> simp at h
        rename_i hc
        subst h
        rw [h1, rowsOf_local h2 fun k hk => hg k (by simp [hk])]
        simp only [hg k (by simp), hb]; rw [if_pos hc]
      · cases h
    · cases h
  case new => simpa only [fp] using h
  all_goals simp only [fp] at h ⊢
  all_goals first
    | (rw [hρ]; exact h)
    | (rw [hρ.1, hρ.2]; exact h)
    | (rw [hρ.1, hρ.2.1, hρ.2.2]; exact h)

/-! ### Nothing is made up -/
section keys
variable {K : Key → Prop}
theorem cellsKeys_take {cs : List Cell} (h : ∀ k ∈ cellsKeys cs, K k) : ∀ n, ∀ k ∈ cellsKeys (cs.take n), K k := by
  induction cs with
  | nil => intro n k hk; simp [cellsKeys] at hk
  | cons c r ih =>
    intro n k hk
    cases n with
    | zero => simp [cellsKeys] at hk
    | succ n =>
      simp only [List.take_succ_cons, cellsKeys, List.mem_append] at hk h
      rcases hk with hk | hk
      · exact h k (.inl hk)
      · exact ih (fun k hk => h k (.inr hk)) n k hk
theorem cellsKeys_drop {cs : List Cell} (h : ∀ k ∈ cellsKeys cs, K k) : ∀ n, ∀ k ∈ cellsKeys (cs.drop n), K k := by
  induction cs with
  | nil => intro n k hk; simp [cellsKeys] at hk
  | cons c r ih =>
    intro n k hk
    cases n with
    | zero => exact h k (by simpa using hk)
    | succ n =>
      simp only [List.drop_succ_cons] at hk
      exact ih (fun k hk => h k (by simp [cellsKeys, hk])) n k hk
theorem cellsKeys_append {a b : List Cell} : cellsKeys (a ++ b) = cellsKeys a ++ cellsKeys b := by
  induction a with
  | nil => rfl
  | cons c r ih => simp [cellsKeys, ih]
theorem splice_keys {cs xs : List Cell} {off : Nat} (h : ∀ k ∈ cellsKeys cs, K k) (hx : ∀ k ∈ cellsKeys xs, K k) : ∀ k ∈ cellsKeys (splice cs off xs), K k := by
  intro k hk
  simp only [splice, cellsKeys_append, List.mem_append] at hk
  rcases hk with (hk | hk) | hk
  · exact cellsKeys_take h _ k hk
  · exact hx k hk
  · exact cellsKeys_drop h _ k hk
theorem fillC_keys {ρ : Src → V} (hρ : ∀ s ∈ ([] : List Src), True) : ∀ {ps : List (Nat × Nat × Src)} {z cs : List Cell}, fillC ρ z ps = some cs → (∀ k ∈ cellsKeys z, K k) → (∀ s ∈ ps.map (·.2.2), ∀ k ∈ (ρ s).keys, K k) → ∀ k ∈ cellsKeys cs, K k
  | [], z, cs, h, hz, _ => by simp [fillC] at h; subst h; exact hz
  | (off, n, x) :: r, z, cs, h, hz, hs => by
    simp only [fillC] at h
    split at h
    · rename_i xs hxs
      split at h
      · exact fillC_keys hρ h (splice_keys hz fun k hk => hs x (by simp) k (cells_keys hxs k hk)) fun s hs' => hs s (by simp at hs' ⊢; exact .inr hs')
      · cases h
    · cases h
theorem onesOf_keys {ρ : Src → V} : ∀ {ss : List Src} {els : List (List Cell)}, onesOf (srcs ρ ss) = some els → (∀ s ∈ ss, ∀ k ∈ (ρ s).keys, K k) → ∀ k ∈ elsKeys els, K k
  | [], els, h, _ => by simp [srcs, onesOf] at h; subst h; intro k hk; simp [elsKeys] at hk
  | x :: r, els, h, hs => by
    simp only [srcs, onesOf] at h
    split at h <;> simp at h
    rename_i c r' h1 h2
    subst h
    intro k hk
    simp only [elsKeys, List.mem_append] at hk
    rcases hk with hk | hk
    · exact hs x (by simp) k (cells_keys h1 k hk)
    · exact onesOf_keys h2 (fun s hs' => hs s (by simp [hs'])) k hk
theorem capsOf_keys {ρ : Src → V} : ∀ {ss : List Src} {l : List Loc}, capsOf (srcs ρ ss) = some l → (∀ s ∈ ss, ∀ k ∈ (ρ s).keys, K k) → ∀ p ∈ l, K p.k
  | [], l, h, _ => by simp [srcs, capsOf] at h; subst h; intro k hk; cases hk
  | x :: r, l, h, hs => by
    simp only [srcs] at h
    cases hx : ρ x with
    | c y =>
      cases y with
      | ptr p =>
        rw [hx] at h
        simp only [capsOf, Option.map_eq_some_iff] at h
        obtain ⟨l', h1, rfl⟩ := h
        intro q hq
        rcases List.mem_cons.1 hq with rfl | hq
        · exact hs x (by simp) _ (by rw [hx]; simp [V.keys, V.keys1, Cell.keys])
        · exact capsOf_keys h1 (fun s hs' => hs s (by simp [hs'])) q hq
      | _ => rw [hx] at h; simp [capsOf] at h
    | _ => rw [hx] at h; simp [capsOf] at h
theorem reach_keys {get : Key → Option Blk} (hb : ∀ k b, get k = some b → ∀ k' ∈ b.keys, K k') : ∀ {n : Nat} {ks acc κs : List Key}, reach get n ks acc = some κs → (∀ k ∈ ks, K k) → (∀ k ∈ acc, K k) → ∀ k ∈ κs, K k
  | n, [], acc, κs, h, _, ha => by
    have : acc = κs := by cases n <;> simpa [reach] using h
    exact this ▸ ha
  | 0, _ :: _, acc, κs, h, _, _ => by simp [reach] at h
  | n + 1, k0 :: ks, acc, κs, h, hk, ha => by
    simp only [reach] at h
    split at h
    · exact reach_keys hb h (fun k h => hk k (by simp [h])) ha
    · split at h
      · cases h
      · rename_i b hb'
        refine reach_keys hb h (fun k h => ?_) (fun k h => ?_)
        · rcases List.mem_append.1 h with h | h
          · exact hk k (by simp [h])
          · exact hb k0 b hb' k h
        · rcases List.mem_append.1 h with h | h
          · exact ha k h
          · simp only [List.mem_singleton] at h; subst h; exact hk _ (by simp)
theorem fpCall_keys {call : CallF} {get : Key → Option Blk} {d f : Nat} {vs : List V} {e : Eff} (h : fpCall call get d f vs = some e) (hv : ∀ k ∈ valsKeys vs, K k) (hb : ∀ k b, get k = some b → ∀ k' ∈ b.keys, K k') (hn : ∀ n ∈ e.n, K (.l n)) :
    (∀ k ∈ e.v.keys, K k) ∧ (∀ k b, lastW k e.w = some (some b) → ∀ k' ∈ b.keys, K k') := by
  obtain ⟨κs, _, h2, h⟩ := fpCall_G h
  have hκ := reach_keys hb h2 hv (by simp)
  unfold fpCallG at h
  split at h
  · cases h
  rename_i bs hbs
  split at h <;> simp at h
  subst h
  rename_i v os news hc
  have hρ : ∀ k0 k, outR κs d news.length k0 = some k → K k := by
    intro k0 k hk
    rcases outR_spec hk with ⟨i, rfl, h1, _⟩ | ⟨i, rfl, hi, rfl⟩
    · exact hκ k (List.mem_of_getElem? h1)
    · exact hn _ (mem_names.2 ⟨i, hi, rfl⟩)
  refine ⟨fun k hk => ?_, fun k b hk k' hk' => ?_⟩
  · obtain ⟨k0, _, h5⟩ := V.ren_keys hk; exact hρ k0 k h5
  · have : ∃ c : Blk, b = c.ren (outR κs d news.length) := by
      rw [lastW_append] at hk
      cases hl : lastW k (newW d (outR κs d news.length) 0 news) with
      | some y =>
        rw [hl] at hk
        obtain ⟨i, c, _, _, q3⟩ := lastW_newW.1 _ (hl.trans hk)
        exact ⟨c, by simpa using q3⟩
      | none =>
        rw [hl] at hk
        obtain ⟨i, b0, _, _, _, q4⟩ := lastW_outW.1 _ hk
        have q4 := q4.symm
        simp only [Option.map_eq_some_iff] at q4
        obtain ⟨c, _, q5⟩ := q4
        exact ⟨c, q5.symm⟩
    obtain ⟨c, rfl⟩ := this
    obtain ⟨k0, _, h5⟩ := Blk.ren_keys hk'; exact hρ k0 k' h5
theorem srcs_keys {ρ : Src → V} : ∀ {ss : List Src}, (∀ s ∈ ss, ∀ k ∈ (ρ s).keys, K k) → noTup (srcs ρ ss) = true → ∀ k ∈ valsKeys (srcs ρ ss), K k
  | [], _, _, k, hk => by simp [srcs, valsKeys] at hk
  | x :: r, hs, ht, k, hk => by
    simp only [srcs, valsKeys, List.mem_append] at hk
    have ht' : noTup (srcs ρ r) = true := by
      simp only [srcs] at ht
      cases hx : ρ x <;> rw [hx] at ht <;> simpa [noTup] using ht
    rcases hk with hk | hk
    · refine hs x (by simp) k ?_
      simp only [srcs] at ht
      cases hx : ρ x with
      | tup _ => rw [hx] at ht; simp [noTup] at ht
      | c y => rw [hx] at hk; exact hk
      | agg y => rw [hx] at hk; exact hk
    · exact srcs_keys (fun s h => hs s (by simp [h])) ht' k hk
theorem pl_keys {b : Blk} (h : ∀ e ∈ b.els, ∀ k ∈ cellsKeys e, K k) : ∀ k ∈ b.keys, K k := by
  intro k hk
  obtain ⟨_, e, h1, h2⟩ := Blk.keys_els hk
  exact h e h1 k h2
theorem mkV_K {g : Bool} {cs : List Cell} {v : V} (h : mkV g cs = some v) (hc : ∀ k ∈ cellsKeys cs, K k) : ∀ k ∈ v.keys, K k := fun k hk => hc k (mkV_keys h k hk)
theorem no_keys {c : Cell} (h : c.keys = []) : ∀ k ∈ (V.c c).keys, K k := by intro k hk; simp [V.keys, V.keys1, h] at hk
theorem one_keys {k0 : Key} {c : Cell} (h : c.keys = [k0]) (hk : K k0) : ∀ k ∈ (V.c c).keys, K k := by
  intro k h'; simp [V.keys, V.keys1, h] at h'; subst h'; exact hk
theorem tup_keys {vs : List V} {v : V} {i : Nat} (h : vs[i]? = some v) (hc : ∀ k ∈ valsKeys vs, K k) (ht : ∀ l, v ≠ .tup l) : ∀ k ∈ v.keys, K k := by
  intro k hk
  refine hc k (mem_valsKeys (List.mem_of_getElem? h) ?_)
  cases v with
  | tup l => exact absurd rfl (ht l)
  | c x => exact hk
  | agg x => exact hk
/-- The writes of an allocation. -/
theorem write_one {k0 : Key} {b0 : Blk} (h : ∀ k ∈ b0.keys, K k) : ∀ k b, lastW k [(k0, some b0)] = some (some b) → ∀ k' ∈ b.keys, K k' := by
  intro k b hk
  obtain ⟨_, hb⟩ := lastW_one hk
  simp only [Option.some.injEq] at hb; subst hb; exact h
theorem write_none : ∀ k b, lastW k [] = some (some b) → ∀ k' ∈ b.keys, K k' := by intro k b hk; simp [lastW] at hk
theorem els_take_drop {b : Blk} {p i n : Nat} {e : List Cell} (hp : b.els[p]? = some e) (hk : ∀ k ∈ b.keys, K k) (hpl : b.pl = true → ∀ e ∈ b.els, allPlain e = true) : ∀ k ∈ cellsKeys ((e.drop i).take n), K k := by
  have : ∀ k ∈ cellsKeys e, K k := by
    intro k hke
    by_cases h : b.pl = true
    · rw [allPlain_cellsKeys (hpl h e (List.mem_of_getElem? hp))] at hke; cases hke
    · refine hk k ?_
      simp only [Blk.keys, if_neg h]
      exact mem_elsKeys (List.mem_of_getElem? hp) hke
  exact cellsKeys_take (cellsKeys_drop this i) n
def noTupT : V → Prop
  | .tup vs => ∀ v ∈ vs, ∀ l, v ≠ .tup l
  | _ => True
theorem fp_keys {call : CallF} {ρ : Src → V} {get : Key → Option Blk} {d : Nat} {op : IOp} {e : Eff} (h : fp call ρ get d op = some e) (hs : ∀ s ∈ op.srcs, ∀ k ∈ (ρ s).keys, K k) (htt : ∀ s ∈ op.srcs, noTupT (ρ s)) (hz : cellsKeys op.zero = [])
    (hb : ∀ k b, get k = some b → ∀ k' ∈ b.keys, K k') (hpl : ∀ k b, get k = some b → b.pl = true → ∀ e ∈ b.els, allPlain e = true) (hn : ∀ n ∈ e.n, K (.l n)) :
    (∀ k ∈ e.v.keys, K k) ∧ (∀ k b, lastW k e.w = some (some b) → ∀ k' ∈ b.keys, K k') := by
  cases op <;> simp only [IOp.srcs, List.mem_cons, List.not_mem_nil, or_false, forall_eq_or_imp, forall_eq, false_imp_iff, implies_true] at hs htt <;> simp only [IOp.zero] at hz
  case call f args =>
    simp only [fp] at h
    obtain ⟨κs, h1, _⟩ := fpCall_G h
    exact fpCall_keys h (srcs_keys hs h1) hb hn
  case callv f args =>
    simp only [fp] at h
    split at h
    · rename_i g l hg
      obtain ⟨κs, h1, _⟩ := fpCall_G h
      refine fpCall_keys h ?_ hb hn
      intro k hk
      obtain ⟨v, h2, h3⟩ := valsKeys_mem hk
      rcases List.mem_append.1 h2 with h2 | h2
      · refine srcs_keys hs.2 ?_ k (mem_valsKeys h2 h3)
        have : ∀ {a b : List V}, noTup (a ++ b) = true → noTup a = true := by
          intro a
          induction a with
          | nil => intro b _; rfl
          | cons x r ih => intro b h; cases x <;> simp [noTup] at h ⊢ <;> exact ih h
        exact this h1
      · obtain ⟨p, hp, rfl⟩ := List.mem_map.1 h2
        refine hs.1 k ?_
        rw [hg]
        simp only [V.keys1, Cell.keys, List.mem_singleton] at h3; subst h3
        simp only [V.keys, V.keys1, Cell.keys, List.mem_map]
        exact ⟨p, hp, rfl⟩
    · cases h
  case mv x => simp [fp, pure1] at h; subst h; exact ⟨hs, write_none⟩
  case pick c a b =>
    simp only [fp] at h
    split at h <;> simp [pure1] at h
    subst h
    refine ⟨?_, write_none⟩
    split
    · exact hs.2.1
    · exact hs.2.2
  case new T sz pl z =>
    simp only [fp] at h
    split at h <;> simp at h
    subst h
    refine ⟨one_keys rfl (hn d (by simp)), write_one (pl_keys ?_)⟩
    intro e he k hk; simp only [List.mem_singleton] at he; subst he; rw [hz] at hk; cases hk
  case box T sz pl x =>
    simp only [fp] at h
    split at h
    · rename_i z hz'
      split at h <;> simp at h
      subst h
      refine ⟨one_keys rfl (hn d (by simp)), write_one (pl_keys ?_)⟩
      intro e he k hk; simp only [List.mem_singleton] at he; subst he; exact hs k (cells_keys hz' k hk)
    · cases h
  case build z ps =>
    simp only [fp] at h
    split at h <;> simp [pure1] at h
    rename_i cs hcs
    subst h
    exact ⟨fillC_keys (by simp) hcs (by rw [hz]; simp) hs, write_none⟩
  case load g n a =>
    simp only [fp] at h
    split at h
    · rename_i p hp
      split at h
      · rename_i b hb'
        split at h
        · rename_i e' he
          split at h
          · simp only [Option.map_eq_some_iff] at h
            obtain ⟨v, h1, rfl⟩ := h
            exact ⟨mkV_K h1 (els_take_drop he (hb _ _ hb') (hpl _ _ hb')), write_none⟩
          · cases h
        · cases h
      · cases h
    · cases h
  case store n a x =>
    simp only [fp] at h
    split at h
    · rename_i p xs hp hx
      split at h
      · rename_i b hb'
        split at h
        · rename_i e' he
          split at h <;> simp at h
          subst h
          refine ⟨no_keys rfl, write_one ?_⟩
          intro k hk
          obtain ⟨q1, f, q2, q3⟩ := Blk.keys_els hk
          have hbk : ∀ e ∈ b.els, ∀ k ∈ cellsKeys e, K k := fun e he k hk => hb _ _ hb' k (by simp only [Blk.keys, show b.pl = false from q1]; exact mem_elsKeys he hk)
          rcases List.mem_or_eq_of_mem_set q2 with q2 | rfl
          · exact hbk f q2 k q3
          · exact splice_keys (hbk e' (List.mem_of_getElem? he)) (fun k hk => hs.2 k (cells_keys hx k hk)) k q3
        · cases h
      · cases h
    · cases h
  case field g off n x =>
    simp only [fp] at h
    split at h
    · rename_i cs hcs
      split at h
      · simp only [Option.map_eq_some_iff] at h
        obtain ⟨v, h1, rfl⟩ := h
        exact ⟨mkV_K h1 (cellsKeys_take (cellsKeys_drop (fun k hk => hs k (by rw [hcs]; exact hk)) _) _), write_none⟩
      · cases h
    · cases h
  case index g len sz x i =>
    simp only [fp] at h
    split at h
    · rename_i cs _ _ hcs _
      split at h
      · simp only [Option.map_eq_some_iff] at h
        obtain ⟨v, h1, rfl⟩ := h
        exact ⟨mkV_K h1 (cellsKeys_take (cellsKeys_drop (fun k hk => hs.1 k (by rw [hcs]; exact hk)) _) _), write_none⟩
      · cases h
    · cases h
  case faddr off x =>
    simp only [fp] at h
    split at h <;> simp [pure1] at h
    rename_i p hp
    subst h
    exact ⟨one_keys rfl (hs p.k (by rw [hp]; simp [V.keys, V.keys1, Cell.keys])), write_none⟩
  case iaddr sz x i =>
    simp only [fp] at h
    split at h
    · rename_i k0 z' j' n' _ _ hp _
      split at h <;> simp [pure1] at h
      subst h
      exact ⟨one_keys rfl (hs.1 k0 (by rw [hp]; simp [V.keys, V.keys1, Cell.keys])), write_none⟩
    · cases h
  case iaddrA len sz x i =>
    simp only [fp] at h
    split at h
    · rename_i p _ _ hp _
      split at h <;> simp [pure1] at h
      subst h
      exact ⟨one_keys rfl (hs.1 p.k (by rw [hp]; simp [V.keys, V.keys1, Cell.keys])), write_none⟩
    · cases h
  case ext i x =>
    simp only [fp] at h
    split at h
    · rename_i vs hvs
      split at h <;> simp [pure1] at h
      rename_i v hv
      subst h
      rw [hvs] at htt
      exact ⟨tup_keys hv (fun k hk => hs k (by rw [hvs]; exact hk)) (htt v (List.mem_of_getElem? hv)), write_none⟩
    · cases h
  case app T sz bytes pl s x =>
    simp only [fp] at h
    split at h
    · rename_i ks xs h1 h2
      split at h <;> simp at h
      rename_i hc
      subst h
      refine ⟨one_keys rfl (hn d (by simp)), write_one ?_⟩
      intro k hk
      obtain ⟨q1, _⟩ := Blk.keys_els hk
      rw [hc.1] at q1; cases q1
    · rename_i k0 _ i n ks xs h1 h2
      split at h
      · split at h <;> simp at h
        rename_i hc
        subst h
        refine ⟨one_keys rfl (hn d (by simp)), fun k b hk k' hk' => ?_⟩
        have : b.pl = true := by
          simp only [lastW] at hk
          split at hk
          · rename_i hh; split at hh <;> simp at hh; subst hh; simp at hk; subst hk; exact hc.1
          · split at hk <;> simp at hk
        simp [Blk.keys, this] at hk'
      · cases h
    · cases h
  case bsl T sz pl ps =>
    simp only [fp] at h
    split at h
    · rename_i els hels
      split at h <;> simp at h
      subst h
      refine ⟨one_keys rfl (hn d (by simp)), write_one (pl_keys fun e he k hk => onesOf_keys hels hs k (mem_elsKeys he hk))⟩
    · cases h
  case msl T sz bytes pl z x =>
    simp only [fp] at h
    split at h
    · split at h <;> simp at h
      subst h
      refine ⟨one_keys rfl (hn d (by simp)), write_one (pl_keys fun e he k hk => ?_)⟩
      rw [(List.mem_replicate.1 he).2, hz] at hk; cases hk
    · cases h
  case sl sz x lo hi =>
    simp only [fp] at h
    split at h
    · rename_i k0 _ _ _ hp
      split at h
      · split at h <;> simp [pure1] at h
        subst h
        exact ⟨one_keys rfl (hs.1 k0 (by rw [hp]; simp [V.keys, V.keys1, Cell.keys])), write_none⟩
      · cases h
    · split at h <;> simp [pure1] at h
      subst h; exact ⟨no_keys rfl, write_none⟩
    · cases h
  case fn f cap =>
    simp only [fp] at h
    split at h <;> simp [pure1] at h
    rename_i l hl
    subst h
    refine ⟨fun k hk => ?_, write_none⟩
    simp only [V.keys, V.keys1, Cell.keys, List.mem_map] at hk
    obtain ⟨p, hp, rfl⟩ := hk
    exact capsOf_keys hl hs p hp
  case nilchk x =>
    simp only [fp] at h
    split at h <;> simp [pure1] at h <;> subst h <;> rename_i hp <;> rw [hp] at hs <;> exact ⟨hs, write_none⟩
  case bin op x y =>
    simp only [fp] at h
    split at h
    · split at h <;> simp [pure1] at h
      rename_i r hr
      subst h
      refine ⟨no_keys ?_, write_none⟩
      unfold binC at hr
      (repeat' split at hr) <;> simp at hr <;> subst hr <;> rfl
    · cases h
  case un op x =>
    simp only [fp] at h
    split at h
    · split at h <;> simp [pure1] at h
      rename_i r hr
      subst h
      refine ⟨no_keys ?_, write_none⟩
      unfold unC at hr
      (repeat' split at hr) <;> simp at hr <;> subst hr <;> rfl
    · cases h
  case mm mx x y =>
    simp only [fp] at h
    split at h
    · split at h <;> simp [pure1] at h
      rename_i r hr
      subst h
      refine ⟨no_keys ?_, write_none⟩
      unfold mmC at hr
      split at hr
      · split at hr <;> simp at hr
        subst hr; rfl
      · cases hr
    · cases h
  all_goals
    simp only [fp] at h
    (repeat' split at h) <;> (try (simp at h; done)) <;> simp [pure1] at h <;> subst h <;> refine ⟨?_, write_none⟩ <;> first | exact no_keys rfl | (intro k hk; simp [V.keys, valsKeys, V.keys1, Cell.keys] at hk)
end keys
end Go.Ab

namespace Go.Ab
variable {P : Program} {nt : Nat} {w0 : World} {W : Wr} {j : J} {σ : St} {a : Act} {w : World} {o : Oper}

def St.valid (σ : St) : Key → Prop
  | .o i => i < σ.out.length
  | .l _ => True
theorem get_valid {k : Key} (h : (σ.get k).isSome = true) : σ.valid k := by
  cases k with
  | l s => trivial
  | o i =>
    simp only [St.get] at h
    rcases Nat.lt_or_ge i σ.out.length with h' | h'
    · exact h'
    · rw [List.getElem?_eq_none h'] at h; simp at h
theorem set_out (σ : St) (k : Key) (b : Option Blk) : (σ.set k b).out.length = σ.out.length ∧ (σ.set k b).env = σ.env ∧ (σ.set k b).cr = σ.cr := by
  cases k <;> cases b <;> simp [St.set]
theorem sets_out : ∀ (ws : List (Key × Option Blk)) (σ : St), (σ.sets ws).out.length = σ.out.length ∧ (σ.sets ws).env = σ.env ∧ (σ.sets ws).cr = σ.cr
  | [], σ => ⟨rfl, rfl, rfl⟩
  | (k, b) :: r, σ => by
    have h1 := set_out σ k b
    have h2 := sets_out r (σ.set k b)
    exact ⟨h2.1.trans h1.1, h2.2.1.trans h1.2.1, h2.2.2.trans h1.2.2⟩
theorem get_set (σ : St) {k : Key} (b : Option Blk) (k' : Key) (hv : σ.valid k) : (σ.set k b).get k' = if k = k' then b else σ.get k' := by
  cases k with
  | o i =>
    cases k' with
    | l s => simp [St.set, St.get]
    | o i' =>
      simp only [St.set, St.get, Key.o.injEq]
      by_cases h : i = i'
      · subst h; rw [if_pos rfl, List.getElem?_set_self (by simpa [St.valid] using hv)]; rfl
      · rw [if_neg h, List.getElem?_set_ne h]
  | l s =>
    cases k' with
    | o i => cases b <;> simp [St.set, St.get]
    | l s' =>
      cases b with
      | some b => simp [St.set, St.get, lk_up]
      | none => simp [St.set, St.get, lk_del]
theorem valid_set (σ : St) (k : Key) (b : Option Blk) (k' : Key) : (σ.set k b).valid k' ↔ σ.valid k' := by
  cases k' with
  | l s => simp [St.valid]
  | o i => simp [St.valid, (set_out σ k b).1]
theorem get_sets : ∀ (ws : List (Key × Option Blk)) (σ : St) (k : Key), (∀ k ∈ keysOf ws, σ.valid k) → (σ.sets ws).get k = match lastW k ws with | some b => b | none => σ.get k
  | [], σ, k, _ => rfl
  | (k0, b) :: r, σ, k, h => by
    have ih := get_sets r (σ.set k0 b) k fun k' hk' => (valid_set σ k0 b k').2 (h k' (by simp [keysOf, hk']))
    simp only [St.sets, lastW]
    rw [ih, get_set σ b k (h k0 (by simp [keysOf]))]
    cases lastW k r with
    | some x => rfl
    | none => by_cases hk : k0 = k <;> simp [hk]
theorem ev_put (σ : St) (d : Option Nat) (v : V) (t : Nat) : (σ.put d v).ev (.t t) = if d = some t then v else σ.ev (.t t) := by
  cases d with
  | none => simp [St.put]
  | some d =>
    simp only [St.put, St.ev, lk_up, Option.some.injEq]
    by_cases h : d = t <;> simp [h]
theorem put_rest (σ : St) (d : Option Nat) (v : V) : (σ.put d v).get = σ.get ∧ (σ.put d v).cr = σ.cr ∧ (σ.put d v).out = σ.out := by
  cases d <;> simp [St.put] <;> funext k <;> cases k <;> rfl
theorem ev_kill (σ : St) (ns : List Nat) (t : Nat) : (σ.kill ns).ev (.t t) = (σ.ev (.t t)).ren (killR ns) := by
  simp only [St.kill, St.ev, lk_lmap]
  cases lk t σ.env <;> simp [V.ren, V.ren1, Cell.ren]
theorem get_kill (σ : St) (ns : List Nat) (k : Key) : (σ.kill ns).get k = match killR ns k with | none => none | some k => (σ.get k).map (Blk.ren (killR ns)) := by
  cases k with
  | o i =>
    simp only [St.kill, St.get, killR, List.getElem?_map]
    cases σ.out[i]? <;> simp
  | l s =>
    simp only [St.kill, St.get, lk_lmap, lk_delAll, killR]
    by_cases h : ns.contains s = true
    · simp only [if_pos h]; rfl
    · simp only [if_neg h]
theorem killR_spec {ns : List Nat} {k k' : Key} (h : killR ns k = some k') : k' = k ∧ ∀ n ∈ ns, k ≠ .l n := by
  cases k with
  | o i => simp [killR] at h; exact ⟨h.symm, fun n _ e => by cases e⟩
  | l s =>
    simp only [killR] at h
    split at h <;> simp at h
    rename_i hc
    exact ⟨h.symm, fun n hn e => hc (by simp only [Key.l.injEq] at e; subst e; simpa using hn)⟩

/-- What is left of a state when names were forgotten. -/
structure Left (j : J) (ns : List Nat) (σ τ : St) (a : Act) : Prop where
  env : ∀ t, RelV j (τ.ev (.t t)) (a.tmps.getD t undef)
  ek : ∀ t, ∀ k ∈ (τ.ev (.t t)).keys, okK σ.cr k ∧ ∀ n ∈ ns, k ≠ .l n
  get : ∀ k b, τ.get k = some b → ∃ b0, σ.get k = some b0 ∧ b.own = b0.own ∧ (b0.els = [] → b.els = []) ∧ (∀ p w, RelB j b0 p w → RelB j b p w) ∧ ∀ k' ∈ b.keys, okK σ.cr k' ∧ ∀ n ∈ ns, k' ≠ .l n
  out : τ.out.length = σ.out.length
  cr : ∀ n ∈ σ.cr, n ∈ τ.cr ∨ n ∈ ns
theorem kill_left (hr : Rel nt w0 W j σ a w) (ns : List Nat) : Left j ns σ (σ.kill ns) a := by
  have hρ : ∀ k k', killR ns k = some k' → j k' = j k := fun k k' h => by rw [(killR_spec h).1]
  refine ⟨fun t => ?_, fun t k hk => ?_, fun k b hk => ?_, by simp [St.kill], fun n hn => ?_⟩
  · rw [ev_kill]; exact (hr.env t).ren hρ
  · rw [ev_kill] at hk
    obtain ⟨k0, h1, h2⟩ := V.ren_keys hk
    obtain ⟨rfl, h3⟩ := killR_spec h2
    exact ⟨hr.ek t k h1, h3⟩
  · rw [get_kill] at hk
    split at hk
    · cases hk
    · rename_i k2 hkr
      obtain ⟨rfl, _⟩ := killR_spec hkr
      simp only [Option.map_eq_some_iff] at hk
      obtain ⟨b0, h1, rfl⟩ := hk
      refine ⟨b0, h1, Blk.ren_own _ _, Blk.ren_nil, fun p w h => h.ren hρ, fun k' hk' => ?_⟩
      obtain ⟨k0, h2, h3⟩ := Blk.ren_keys hk'
      obtain ⟨rfl, h4⟩ := killR_spec h3
      exact ⟨hr.hk _ b0 h1 _ h2, h4⟩
  · by_cases h : n ∈ ns
    · exact .inr h
    · left; simp [St.kill, hn, h]
theorem none_left (hr : Rel nt w0 W j σ a w) (ns : List Nat) (h : ∀ n ∈ ns, n ∉ σ.cr) : Left j ns σ σ a := by
  have key : ∀ k, okK σ.cr k → ∀ n ∈ ns, k ≠ .l n := fun k hk n hn e => h n hn (hk n e)
  exact ⟨hr.env, fun t k hk => ⟨hr.ek t k hk, key k (hr.ek t k hk)⟩, fun k b hk => ⟨b, hk, rfl, id, fun _ _ h => h, fun k' hk' => ⟨hr.hk k b hk k' hk', key k' (hr.hk k b hk k' hk')⟩⟩, rfl, fun n hn => .inl hn⟩
/-- Forgetting leaves all else true. -/
theorem kill_rel (hr : Rel nt w0 W j σ a w) (ns : List Nat) : Rel nt w0 W j (σ.kill ns) a w := by
  have L := kill_left hr ns
  refine ⟨hr.n, hr.df, L.env, ⟨fun k b hk hj => ?_, fun k b p hk hj => ?_, fun k k' b b' p p' hk hk' hne ho hj hj' => ?_⟩, hr.fr, fun k b p hk ho hj => ?_, fun t k hk s e => ?_, fun k b hk k' hk' s e => ?_, hr.jo, fun i b hk ho => ?_, fun s b hk => ?_⟩
  · obtain ⟨b0, h1, _, h2, _⟩ := L.get k b hk; exact h2 (hr.hp.non k b0 h1 hj)
  · obtain ⟨b0, h1, _, _, h3, _⟩ := L.get k b hk; exact h3 p w (hr.hp.som k b0 p h1 hj)
  · obtain ⟨b0, h1, h2, _⟩ := L.get k b hk
    obtain ⟨b0', h1', _⟩ := L.get k' b' hk'
    exact hr.hp.dis k k' b0 b0' p p' h1 h1' hne (by rw [← h2]; exact ho) hj hj'
  · obtain ⟨b0, h1, h2, _⟩ := L.get k b hk; exact hr.ow k b0 p h1 (by rw [← h2]; exact ho) hj
  · obtain ⟨h1, h2⟩ := L.ek t k hk
    rcases L.cr s (h1 s e) with h | h
    · exact h
    · exact absurd e (h2 s h)
  · obtain ⟨b0, _, _, _, _, h1⟩ := L.get k b hk
    obtain ⟨h1, h2⟩ := h1 k' hk'
    rcases L.cr s (h1 s e) with h | h
    · exact h
    · exact absurd e (h2 s h)
  · obtain ⟨b0, h1, h2, _⟩ := L.get _ b hk; rw [h2]; exact hr.oo i b0 h1 ho
  · obtain ⟨b0, h1, h2, _⟩ := L.get _ b hk; rw [h2]; exact hr.lo s b0 h1
theorem put_getD {a : Act} {d : Option Nat} {v : Value} (hd : d.getD 0 < a.tmps.size) (t : Nat) : (a.put d v).tmps.getD t undef = if d = some t then v else a.tmps.getD t undef := by
  cases d with
  | none => simp [Act.put]
  | some d =>
    simp only [Option.getD_some] at hd
    simp only [Act.put, Option.some.injEq, Array.getD_eq_getD_getElem?]
    by_cases h : d = t
    · subst h; simp [hd]
    · rw [Array.getElem?_setIfInBounds_ne h, if_neg h]
theorem mem_hits {ns cr : List Nat} {n : Nat} : n ∈ hits ns cr ↔ n ∈ ns ∧ n ∈ cr := by simp [hits, List.mem_filter]
def St.aft (τ : St) (d : Option Nat) (e : Eff) : St := { (τ.sets e.w).put d e.v with cr := e.n ++ ((τ.sets e.w).put d e.v).cr }
theorem aft_facts {τ : St} {d : Option Nat} {e : Eff} (hv : ∀ k ∈ keysOf e.w, τ.valid k) :
    (∀ t, (τ.aft d e).ev (.t t) = if d = some t then e.v else τ.ev (.t t)) ∧ (∀ k, (τ.aft d e).get k = match lastW k e.w with | some b => b | none => τ.get k) ∧ (τ.aft d e).cr = e.n ++ τ.cr ∧ (τ.aft d e).out.length = τ.out.length := by
  have h1 := put_rest (τ.sets e.w) d e.v
  have h2 := sets_out e.w τ
  have hget : (τ.aft d e).get = (τ.sets e.w).get := by
    rw [← h1.1]; funext k; cases k <;> rfl
  have hev : ∀ t, (τ.aft d e).ev (.t t) = ((τ.sets e.w).put d e.v).ev (.t t) := fun t => rfl
  refine ⟨fun t => ?_, fun k => ?_, ?_, ?_⟩
  · rw [hev, ev_put]
    by_cases h : d = some t
    · simp [h]
    · simp only [if_neg h]; simp only [St.ev, h2.2.1]
  · rw [hget, get_sets e.w τ k hv]
  · simp [St.aft, h1.2.1, h2.2.2]
  · simp [St.aft, h1.2.2, h2.1]
/-- The state behind an operation. -/
theorem left_rel (hr : Rel nt w0 W j σ a w) {d : Option Nat} {e : Eff} {op : IOp} (ht : Tame σ.get (d.getD 0) op e) (hd : d.getD 0 < nt) {j' : J} {v : Value} {w' : World} (hp : Post j j' σ.get e v w w')
    (hek : ∀ k ∈ e.v.keys, okK (e.n ++ σ.cr) k) (hek2 : ∀ k b, lastW k e.w = some (some b) → ∀ k' ∈ b.keys, okK (e.n ++ σ.cr) k') {τ : St} (L : Left j e.n σ τ a) : Rel nt w0 W j' (τ.aft d e) (a.put d v) w' := by
  have hval : ∀ k ∈ keysOf e.w, τ.valid k := fun k hk => by
    rcases ht.wr k hk with h | ⟨n, _, rfl⟩
    · have := get_valid h
      cases k with
      | l s => trivial
      | o i => simpa [St.valid, L.out] using this
    · trivial
  obtain ⟨f1, f2, f3, f4⟩ := aft_facts (d := d) hval
  have hjk : ∀ k, (∀ n ∈ e.n, k ≠ .l n) → j' k = j k := hp.jk
  have hun : ∀ k, lastW k e.w = none → ∀ n ∈ e.n, k ≠ .l n := fun k hk n hn e' => by
    have := lastW_keysOf.2 (ht.nw n hn)
    rw [← e', hk] at this; cases this
  have hcr : ∀ k, okK (e.n ++ σ.cr) k → okK (τ.aft d e).cr k := fun k hk s e' => by
    rw [f3]
    rcases List.mem_append.1 (hk s e') with h | h
    · exact List.mem_append_left _ h
    · rcases L.cr s h with h | h
      · exact List.mem_append_right _ h
      · exact List.mem_append_left _ h
  have hcr2 : ∀ k, okK σ.cr k → okK (τ.aft d e).cr k := fun k hk => hcr k fun s e' => List.mem_append_right _ (hk s e')
  have hfrb : ∀ k b p, σ.get k = some b → j k = some p → lastW k e.w = none → w'.heap[p.block]? = w.heap[p.block]? := by
    intro k b p hk hj hl
    refine hp.fr.block p.block (hr.hp.som k b p hk hj).lt ?_
    rintro ⟨k1, b1, p1, q1, q2, q3, q4, q5⟩
    have hne : k1 ≠ k := fun e' => by rw [e', hl] at q5; cases q5
    exact hr.hp.dis k1 k b1 b p1 p q1 hk hne q2 q3 hj q4
  have hnwd : ∀ k b p, lastW k e.w = some (some b) → j' k = some p → ∀ k1 b1 p1, σ.get k1 = some b1 → j k1 = some p1 → lastW k1 e.w = none → p.block ≠ p1.block := by
    intro k b p hl hj k1 b1 p1 q1 q2 q3 e'
    rcases hp.nw k b p hl hj with h | ⟨k0, b0, p0, r1, r2, r3, r4, r5⟩
    · have := (hr.hp.som k1 b1 p1 q1 q2).lt; omega
    · have hne : k0 ≠ k1 := fun e' => by rw [e', q3] at r5; cases r5
      exact hr.hp.dis k0 k1 b0 b1 p0 p1 r1 q1 hne r2 r3 q2 (r4.trans e')
  refine ⟨?_, ?_, fun t => ?_, ⟨fun k b hk hj => ?_, fun k b p hk hj => ?_, fun k k' b b' p p' hk hk' hne ho hj hj' => ?_⟩, ?_, fun k b p hk ho hj => ?_, fun t k hk => ?_, fun k b hk k' hk' => ?_, fun i => ?_, fun i b hk ho => ?_, fun s b hk => ?_⟩
  · rw [← hr.n]; cases d <;> simp [Act.put]
  · rw [← hr.df]; cases d <;> simp [Act.put]
  · rw [f1, put_getD (by rw [hr.n]; exact hd)]
    by_cases h : d = some t
    · simp only [if_pos h]; exact hp.v
    · simp only [if_neg h]
      exact (L.env t).congr fun k hk => hjk k (L.ek t k hk).2
  · rw [f2] at hk
    cases hl : lastW k e.w with
    | some x => rw [hl] at hk; simp at hk; subst hk; exact hp.non k b hl hj
    | none =>
      rw [hl] at hk; simp at hk
      obtain ⟨b0, h1, _, h2, _⟩ := L.get k b hk
      exact h2 (hr.hp.non k b0 h1 (by rw [← hjk k (hun k hl)]; exact hj))
  · rw [f2] at hk
    cases hl : lastW k e.w with
    | some x => rw [hl] at hk; simp at hk; subst hk; exact hp.som k b p hl hj
    | none =>
      rw [hl] at hk; simp at hk
      obtain ⟨b0, h1, _, _, h3, h4⟩ := L.get k b hk
      rw [hjk k (hun k hl)] at hj
      exact ((h3 p w (hr.hp.som k b0 p h1 hj)).world (hfrb k b0 p h1 hj hl) hp.fr.size).congr fun k' hk' => hjk k' (h4 k' hk').2
  · rw [f2] at hk hk'
    cases hl : lastW k e.w with
    | some x =>
      rw [hl] at hk; simp at hk; subst hk
      cases hl' : lastW k' e.w with
      | some x' => rw [hl'] at hk'; simp at hk'; subst hk'; exact hp.dis k k' b b' p p' hl hl' hne ho hj hj'
      | none =>
        rw [hl'] at hk'; simp at hk'
        obtain ⟨b0', h1', _⟩ := L.get k' b' hk'
        exact hnwd k b p hl hj k' b0' p' h1' (by rw [← hjk k' (hun k' hl')]; exact hj') hl'
    | none =>
      rw [hl] at hk; simp at hk
      obtain ⟨b0, h1, h2, _⟩ := L.get k b hk
      rw [hjk k (hun k hl)] at hj
      cases hl' : lastW k' e.w with
      | some x' =>
        rw [hl'] at hk'; simp at hk'; subst hk'
        exact (hnwd k' b' p' hl' hj' k b0 p h1 hj hl).symm
      | none =>
        rw [hl'] at hk'; simp at hk'
        obtain ⟨b0', h1', _⟩ := L.get k' b' hk'
        rw [hjk k' (hun k' hl')] at hj'
        exact hr.hp.dis k k' b0 b0' p p' h1 h1' hne (by rw [← h2]; exact ho) hj hj'
  · refine hr.fr.trans hp.fr ?_
    rintro i ⟨k, b, p, q1, q2, q3, rfl, _⟩
    exact hr.ow k b p q1 q2 q3
  · rw [f2] at hk
    cases hl : lastW k e.w with
    | some x =>
      rw [hl] at hk; simp at hk; subst hk
      rcases hp.nw k b p hl hj with h | ⟨k0, b0, p0, r1, r2, r3, r4, _⟩
      · exact .inr (Nat.le_trans hr.fr.size h)
      · rw [← r4]; exact hr.ow k0 b0 p0 r1 r2 r3
    | none =>
      rw [hl] at hk; simp at hk
      obtain ⟨b0, h1, h2, _⟩ := L.get k b hk
      rw [hjk k (hun k hl)] at hj
      exact hr.ow k b0 p h1 (by rw [← h2]; exact ho) hj
  · rw [f1] at hk
    by_cases h : d = some t
    · simp only [if_pos h] at hk; exact hcr k (hek k hk)
    · simp only [if_neg h] at hk; exact hcr2 k (L.ek t k hk).1
  · rw [f2] at hk
    cases hl : lastW k e.w with
    | some x => rw [hl] at hk; simp at hk; subst hk; exact hcr k' (hek2 k b hl k' hk')
    | none =>
      rw [hl] at hk; simp at hk
      obtain ⟨b0, _, _, _, _, h4⟩ := L.get k b hk
      exact hcr2 k' (h4 k' hk').1
  · rw [hjk _ fun n _ e' => by cases e']; exact hr.jo i
  · rw [f2] at hk
    cases hl : lastW (.o i) e.w with
    | some x => rw [hl] at hk; simp at hk; subst hk; exact hp.ow _ b hl
    | none =>
      rw [hl] at hk; simp at hk
      obtain ⟨b0, h1, h2, _⟩ := L.get _ b hk
      rw [h2]; exact hr.oo i b0 h1 ho
  · rw [f2] at hk
    cases hl : lastW (.l s) e.w with
    | some x => rw [hl] at hk; simp at hk; subst hk; exact hp.ow _ b hl
    | none =>
      rw [hl] at hk; simp at hk
      obtain ⟨b0, h1, h2, _⟩ := L.get _ b hk
      rw [h2]; exact hr.lo s b0 h1
end Go.Ab

namespace Go.Ab
variable {P : Program} {nt : Nat} {w0 : World} {W : Wr} {j : J} {σ : St} {a : Act} {w : World} {o : Oper}

theorem closed_keys {x : V} (h : x.isClosed = true) : x.keys = [] ∧ noTupT x := by
  unfold V.isClosed at h
  split at h <;> first | exact ⟨rfl, trivial⟩ | skip
  · rename_i cs; exact ⟨by simpa [V.keys, V.keys1] using h, trivial⟩
  · cases h
theorem rel_noTup {x : V} {v : Value} (h : RelV j x v) : noTupT x := by
  cases x with
  | tup vs =>
    obtain ⟨ws, _, h2⟩ := h
    intro v hv l e
    subst e
    obtain ⟨i, hi⟩ := List.getElem?_of_mem hv
    obtain ⟨b, _, h3⟩ := h2.get hi
    exact h3
  | _ => trivial
theorem closed_src (hr : Rel nt w0 W j σ a w) {s : Src} (h : closedSrc s = true) : (∀ k ∈ (σ.ev s).keys, okK σ.cr k) ∧ noTupT (σ.ev s) := by
  cases s with
  | t i => exact ⟨hr.ek i, rel_noTup (hr.env i)⟩
  | v x =>
    have := closed_keys h
    refine ⟨fun k hk => ?_, this.2⟩
    have hk : k ∈ x.keys := hk
    rw [this.1] at hk; cases hk
theorem fp_keys' (hr : Rel nt w0 W j σ a w) {call : CallF} {d : Nat} {op : IOp} {e : Eff} (h : fp call σ.ev σ.get d op = some e) (hc : closedOp op = true) :
    (∀ k ∈ e.v.keys, okK (e.n ++ σ.cr) k) ∧ (∀ k b, lastW k e.w = some (some b) → ∀ k' ∈ b.keys, okK (e.n ++ σ.cr) k') := by
  have mono : ∀ k, okK σ.cr k → okK (e.n ++ σ.cr) k := fun k hk s e' => List.mem_append_right _ (hk s e')
  simp only [closedOp, Bool.and_eq_true, List.all_eq_true, List.isEmpty_iff] at hc
  refine fp_keys h (fun s hs k hk => mono k ((closed_src hr (hc.1 s hs)).1 k hk)) (fun s hs => (closed_src hr (hc.1 s hs)).2) hc.2 (fun k b hk k' hk' => mono k' (hr.hk k b hk k' hk')) (fun k b hk hp => ?_) (fun n hn s e' => ?_)
  · cases hj : j k with
    | none => rw [hr.hp.non k b hk hj]; simp
    | some p => exact (hr.hp.som k b p hk hj).pl hp
  · simp only [Key.l.injEq] at e'; subst e'; exact List.mem_append_left _ hn
theorem hits_left (hr : Rel nt w0 W j σ a w) (ns : List Nat) : Left j ns σ (match hits ns σ.cr with | [] => σ | ks => σ.kill ks) a := by
  split
  · rename_i h
    exact none_left hr ns fun n hn hc => by have := mem_hits.2 ⟨hn, hc⟩; rw [h] at this; cases this
  · rename_i hne
    have L := kill_left hr (hits ns σ.cr)
    have key : ∀ k, (okK σ.cr k ∧ ∀ n ∈ hits ns σ.cr, k ≠ .l n) → okK σ.cr k ∧ ∀ n ∈ ns, k ≠ .l n := by
      rintro k ⟨h1, h2⟩
      exact ⟨h1, fun n hn e => h2 n (mem_hits.2 ⟨hn, h1 n e⟩) e⟩
    exact ⟨L.env, fun t k hk => key k (L.ek t k hk), fun k b hk => by
      obtain ⟨b0, q1, q2, q3, q4, q5⟩ := L.get k b hk
      exact ⟨b0, q1, q2, q3, q4, fun k' hk' => key k' (q5 k' hk')⟩, L.out, fun n hn => (L.cr n hn).imp id fun h => (mem_hits.1 h).1⟩
theorem pre_rel (hr : Rel nt w0 W j σ a w) (d : Nat) (op : IOp) : Rel nt w0 W j (σ.pre d op) a w ∧ (preK op = true → d ∉ (σ.pre d op).cr) := by
  unfold St.pre
  split
  · exact ⟨kill_rel hr _, fun _ h => by simp [St.kill] at h⟩
  · rename_i h
    refine ⟨hr, fun hp hd => h ?_⟩
    simp [hp, hd]
theorem wants_spec (hr : Rel nt w0 W j σ a w) {ops : Array Oper} {g : Option (Nat × Bool)} {ig : Option (Nat × Bool)} (hg : guardOf ops g = some ig) {b : Bool} (hw : wants σ ig = some b) (ho : o.guard = g) : Region.wanted o (yielded ops a.tmps) = b := by
  subst ho
  unfold Region.wanted
  cases hgd : o.guard with
  | none => rw [hgd] at hg; simp [guardOf] at hg; subst hg; simp [wants] at hw; exact hw.symm ▸ rfl
  | some gw =>
    obtain ⟨g, want⟩ := gw
    rw [hgd] at hg
    simp only [guardOf, Option.map_eq_some_iff] at hg
    obtain ⟨d, h1, rfl⟩ := hg
    simp only [wants] at hw
    have he := hr.env d
    simp only [St.ev] at he
    have hy : ∀ b', a.tmps.getD d undef = .bool b' → yielded ops a.tmps g = some b' := by
      intro b' hb
      simp only [yielded, h1, Option.bind_some]
      rw [Array.getD_eq_getD_getElem?] at hb
      cases ht : a.tmps[d]? with
      | none => rw [ht] at hb; simp [undef] at hb
      | some x => rw [ht] at hb; simp at hb; rw [hb]
    split at hw
    · rename_i b' hb
      rw [hb] at he
      simp at hw; subst hw
      simp only [hy b' he]
      cases b' <;> cases want <;> rfl
    · rename_i hb
      rw [hb] at he
      simp at hw; subst hw
      obtain ⟨ws, h2, h3⟩ := he
      have : ws = [] := by cases ws with | nil => rfl | cons _ _ => exact h3.elim
      subst this
      have : yielded ops a.tmps g = none := by
        simp only [yielded, h1, Option.bind_some]
        rw [Array.getD_eq_getD_getElem?] at h2
        cases ht : a.tmps[d]? with
        | none => rfl
        | some x => rw [ht] at h2; simp at h2; rw [h2]
      simp only [this]; rfl
    · cases hw
/-- One operation of a region. -/
theorem op_step (hr : Rel nt w0 W j σ a w) {call : CallF} (hS : CallSound P call) {ops : Array Oper} {Q : Exit → Act → World → Prop} {i : Nat} (hi : ops[i]? = some o) {io : IOper} {h : IOp}
    (hd : io.d = o.dst) (hdn : o.dst.getD 0 < nt) (hop : compOp P h o.op = some io.op) (hg : guardOf ops o.guard = some io.g) (hc : closedOp io.op = true) {ev : Ev} {σ1 : St} (he : evOp call io σ = some (ev, σ1))
    {K : Act → World → Prop} (hK : ∀ j' a' w', Rel nt w0 W j' σ1 a' w' → K a' w') : wpOp P ops Q i K a w := by
  unfold wpOp
  simp only [hi]
  unfold evOp at he
  split at he
  · rename_i hw
    rw [wants_spec hr hg hw rfl]
    simp only [if_true]
    left
    obtain ⟨hp, hpd⟩ := pre_rel hr (io.d.getD 0) io.op
    split at he <;> simp at he
    rename_i e hf
    obtain ⟨-, rfl⟩ := he
    have hgoal := op_sound hp hS hop hpd hf
    refine Done.wp hgoal ?_
    rintro v w' ⟨j', hpost⟩
    refine hK j' _ _ ?_
    have hk := fp_keys' hp hf hc
    have := left_rel hp (d := io.d) (fp_tame hf) (by rw [hd]; exact hdn) hpost hk.1 hk.2 (hits_left hp e.n)
    rw [← hd]
    exact this
  · rename_i hw
    rw [wants_spec hr hg hw rfl]
    simp only [Bool.false_eq_true, if_false]
    simp at he
    obtain ⟨-, rfl⟩ := he
    refine hK j _ _ ?_
    rw [hd]
    have f1 := ev_put σ o.dst (.tup [])
    have f2 := put_rest σ o.dst (.tup [])
    refine ⟨?_, ?_, fun t => ?_, ?_, hr.fr, ?_, fun t k hk => ?_, ?_, hr.jo, ?_, ?_⟩
    · rw [← hr.n]; cases o.dst <;> simp [Act.put]
    · rw [← hr.df]; cases o.dst <;> simp [Act.put]
    · rw [f1, put_getD (by rw [hr.n]; exact hdn)]
      by_cases h : o.dst = some t
      · simp only [if_pos h]; exact ⟨[], rfl, trivial⟩
      · simp only [if_neg h]; exact hr.env t
    · rw [f2.1]; exact hr.hp
    · rw [f2.1]; exact hr.ow
    · rw [f2.2.1]
      rw [f1] at hk
      by_cases h : o.dst = some t
      · simp only [if_pos h, V.keys, valsKeys] at hk; cases hk
      · simp only [if_neg h] at hk; exact hr.ek t k hk
    · rw [f2.1, f2.2.1]; exact hr.hk
    · rw [f2.1]; exact hr.oo
    · rw [f2.1]; exact hr.lo
  · cases he
end Go.Ab

namespace Go.Ab
variable {P : Program} {nt : Nat} {w0 : World} {W : Wr} {j : J} {σ τ : St} {a : Act} {w : World} {call : CallF}

/-- Two states that nobody can tell apart. -/
structure Sim (σ τ : St) : Prop where
  ev : ∀ t, τ.ev (.t t) = σ.ev (.t t)
  get : τ.get = σ.get
  out : τ.out.length = σ.out.length
  cr : ∀ n, n ∈ τ.cr ↔ n ∈ σ.cr
theorem Sim.refl (σ : St) : Sim σ σ := ⟨fun _ => rfl, rfl, rfl, fun _ => Iff.rfl⟩
theorem Sim.symm (h : Sim σ τ) : Sim τ σ := ⟨fun t => (h.ev t).symm, h.get.symm, h.out.symm, fun n => (h.cr n).symm⟩
theorem Sim.trans {υ : St} (h : Sim σ τ) (h' : Sim τ υ) : Sim σ υ := ⟨fun t => (h'.ev t).trans (h.ev t), h'.get.trans h.get, h'.out.trans h.out, fun n => (h'.cr n).trans (h.cr n)⟩
theorem Sim.evf (h : Sim σ τ) : τ.ev = σ.ev := by
  funext s
  cases s with
  | t i => exact h.ev i
  | v x => rfl
theorem Rel.sim (hr : Rel nt w0 W j σ a w) (h : Sim σ τ) : Rel nt w0 W j τ a w := by
  have hk : ∀ k, okK σ.cr k → okK τ.cr k := fun k hk s e => (h.cr s).2 (hk s e)
  exact ⟨hr.n, hr.df, fun t => by rw [h.ev]; exact hr.env t, by rw [h.get]; exact hr.hp, hr.fr, by rw [h.get]; exact hr.ow, fun t k hk' => hk k (hr.ek t k (by rw [← h.ev]; exact hk')), by rw [h.get]; exact fun k b hb k' hk' => hk k' (hr.hk k b hb k' hk'), hr.jo, by rw [h.get]; exact hr.oo, by rw [h.get]; exact hr.lo⟩
theorem wants_sim (h : Sim σ τ) (g : Option (Nat × Bool)) : wants τ g = wants σ g := by
  cases g with
  | none => rfl
  | some g =>
    obtain ⟨t, want⟩ := g
    have := h.ev t
    simp only [St.ev] at this
    simp only [wants, this]
theorem contains_sim (h : Sim σ τ) (n : Nat) : τ.cr.contains n = σ.cr.contains n := by
  rw [Bool.eq_iff_iff]; simp [h.cr n]
theorem kill_sim (h : Sim σ τ) (ns : List Nat) : Sim (σ.kill ns) (τ.kill ns) := by
  refine ⟨fun t => by rw [ev_kill, ev_kill, h.ev], ?_, by simp [St.kill, h.out], fun n => by simp [St.kill, h.cr n]⟩
  funext k; rw [get_kill, get_kill, h.get]
theorem hits_sim (h : Sim σ τ) (ns : List Nat) : hits ns τ.cr = hits ns σ.cr := by
  unfold hits; congr 1; funext n; exact contains_sim h n
theorem pre_sim (h : Sim σ τ) (d : Nat) (op : IOp) : Sim (σ.pre d op) (τ.pre d op) := by
  unfold St.pre
  rw [contains_sim h]
  split
  · exact kill_sim h _
  · exact h
theorem tame_valid {d : Nat} {op : IOp} {e : Eff} (h : Tame σ.get d op e) (ho : τ.out.length = σ.out.length) : ∀ k ∈ keysOf e.w, τ.valid k := by
  intro k hk
  rcases h.wr k hk with h | ⟨n, _, rfl⟩
  · have := get_valid h
    cases k with
    | l s => trivial
    | o i => simpa [St.valid, ho] using this
  · trivial
theorem aft_sim (h : Sim σ τ) {d : Option Nat} {e : Eff} (hv : ∀ k ∈ keysOf e.w, σ.valid k) : Sim (σ.aft d e) (τ.aft d e) := by
  have hv' : ∀ k ∈ keysOf e.w, τ.valid k := fun k hk => by
    have := hv k hk
    cases k with
    | l s => trivial
    | o i => simpa [St.valid, h.out] using this
  obtain ⟨f1, f2, f3, f4⟩ := aft_facts (d := d) hv
  obtain ⟨g1, g2, g3, g4⟩ := aft_facts (d := d) hv'
  refine ⟨fun t => by rw [f1, g1, h.ev], ?_, by rw [f4, g4, h.out], fun n => by rw [f3, g3]; simp [h.cr n]⟩
  funext k; rw [f2, g2, h.get]
theorem evOp_sim (h : Sim σ τ) {o : IOper} {ev : Ev} {σ1 : St} (he : evOp call o σ = some (ev, σ1)) : ∃ τ1, evOp call o τ = some (ev, τ1) ∧ Sim σ1 τ1 := by
  unfold evOp at he ⊢
  rw [wants_sim h]
  split at he
  · have hp := pre_sim h (o.d.getD 0) o.op
    rw [hp.evf, hp.get, contains_sim h]
    split at he <;> simp only [Option.some.injEq, Prod.mk.injEq, reduceCtorEq] at he
    rename_i e hf
    obtain ⟨rfl, rfl⟩ := he
    have hh := hits_sim h e.n
    refine ⟨_, by rw [hh], ?_⟩
    unfold St.apply
    rw [hits_sim hp]
    have ht := fp_tame hf
    split
    · exact aft_sim hp (tame_valid ht rfl)
    · exact aft_sim (kill_sim hp _) (tame_valid ht (by simp [St.kill]))
  · simp at he
    obtain ⟨rfl, rfl⟩ := he
    exact ⟨_, rfl, aft_sim (e := ⟨.tup [], [], [], []⟩) h (by simp [keysOf])⟩
  · cases he

/-! ### An operation that forgets nothing -/
def Acts (call : CallF) (o : IOper) (σ : St) (e : Eff) : Prop :=
  (wants σ o.g = some false ∧ e = ⟨.tup [], [], [], []⟩) ∨ (wants σ o.g = some true ∧ fp call σ.ev σ.get (o.d.getD 0) o.op = some e ∧ (preK o.op = true → o.d.getD 0 ∉ σ.cr) ∧ ∀ n ∈ e.n, n ∉ σ.cr)
theorem evOp_k {o : IOper} {ev : Ev} {σ1 : St} (he : evOp call o σ = some (ev, σ1)) (hk : ev.k = false) : ∃ e, Acts call o σ e ∧ ev = ⟨e.r, keysOf e.w, false⟩ ∧ σ1 = σ.aft o.d e := by
  unfold evOp at he
  split at he
  · rename_i hw
    split at he <;> simp only [Option.some.injEq, Prod.mk.injEq, reduceCtorEq] at he
    rename_i e hf
    obtain ⟨rfl, rfl⟩ := he
    simp only [Bool.or_eq_false_iff, Bool.not_eq_false', List.isEmpty_iff] at hk
    have hpre : σ.pre (o.d.getD 0) o.op = σ := by unfold St.pre; rw [hk.1]; rfl
    rw [hpre] at hf
    refine ⟨e, .inr ⟨hw, hf, fun hp hm => ?_, fun n hn hm => ?_⟩, ?_, ?_⟩
    · have := hk.1; simp [hp, hm] at this
    · have := mem_hits.2 ⟨hn, hm⟩; rw [hk.2] at this; cases this
    · rw [hk.1, hk.2]; rfl
    · rw [hpre]; unfold St.apply; rw [hk.2]; rfl
  · rename_i hw
    simp at he
    obtain ⟨rfl, rfl⟩ := he
    exact ⟨_, .inl ⟨hw, rfl⟩, rfl, rfl⟩
  · cases he
theorem evOp_acts {o : IOper} {e : Eff} (h : Acts call o σ e) : evOp call o σ = some (⟨e.r, keysOf e.w, false⟩, σ.aft o.d e) := by
  unfold evOp
  rcases h with ⟨hw, rfl⟩ | ⟨hw, hf, hp, hn⟩
  · rw [hw]; rfl
  · rw [hw]
    have hc : (preK o.op && σ.cr.contains (o.d.getD 0)) = false := by
      by_cases h : preK o.op = true
      · simp [h, hp h]
      · simp [h]
    have hh : hits e.n σ.cr = [] := by
      rw [List.eq_nil_iff_forall_not_mem]; intro n hm; exact hn n (mem_hits.1 hm).1 (mem_hits.1 hm).2
    have hpre : σ.pre (o.d.getD 0) o.op = σ := by unfold St.pre; rw [hc]; rfl
    simp only [hpre, hf, hc, hh]
    unfold St.apply; rw [hh]; rfl
theorem Acts.tame {o : IOper} {e : Eff} (h : Acts call o σ e) (ho : τ.out.length = σ.out.length) : ∀ k ∈ keysOf e.w, τ.valid k := by
  rcases h with ⟨_, rfl⟩ | ⟨_, hf, _⟩
  · simp [keysOf]
  · exact tame_valid (fp_tame hf) ho
theorem Acts.local {o : IOper} {e : Eff} (h : Acts call o σ e) (h1 : ∀ t, looks o t = true → τ.ev (.t t) = σ.ev (.t t)) (h2 : ∀ k ∈ e.r, τ.get k = σ.get k) (h3 : ∀ n ∈ e.n, n ∉ τ.cr) : Acts call o τ e := by
  have hw : wants τ o.g = wants σ o.g := by
    cases hg : o.g with
    | none => rfl
    | some g =>
      obtain ⟨t, want⟩ := g
      have := h1 t (by simp [looks, hg])
      simp only [St.ev] at this
      simp only [wants, this]
  rcases h with ⟨h, rfl⟩ | ⟨h, hf, hp, hn⟩
  · exact .inl ⟨hw.trans h, rfl⟩
  · refine .inr ⟨hw.trans h, fp_local hf (fun s hs => ?_) h2, fun hp' => h3 _ (by rw [(fp_tame hf).pre hp']; simp), h3⟩
    cases s with
    | t i => exact h1 i (by simp only [looks, Bool.or_eq_true, List.any_eq_true]; left; exact ⟨.t i, hs, by simp⟩)
    | v x => rfl
theorem meets_spec {l m : List Key} (h : meets l m = false) : ∀ k ∈ l, k ∉ m := by
  induction l with
  | nil => simp
  | cons x r ih =>
    simp only [meets, Bool.or_eq_false_iff] at h
    intro k hk
    rcases List.mem_cons.1 hk with rfl | hk
    · simpa using h.1
    · exact ih h.2 k hk
theorem lastW_none {k : Key} {ws : List (Key × Option Blk)} (h : k ∉ keysOf ws) : lastW k ws = none := by
  cases hl : lastW k ws with
  | none => rfl
  | some x => exact absurd (lastW_keysOf.1 (by rw [hl]; rfl)) h
theorem apartT_spec {a b : IOper} (h : apartT a b = true) : (∀ t, a.d = some t → looks b t = false) ∧ (∀ t, b.d = some t → looks a t = false) ∧ (∀ t, a.d = some t → b.d ≠ some t) := by
  simp only [apartT, Bool.and_eq_true] at h
  obtain ⟨⟨h1, h2⟩, h3⟩ := h
  refine ⟨fun t ht => ?_, fun t ht => ?_, fun t ht ht' => ?_⟩
  · rw [ht] at h1; simpa using h1
  · rw [ht] at h2; simpa using h2
  · rw [ht, ht'] at h3; simp at h3
/-- Two operations that have nothing to do with one another change places. -/
theorem swap {x y : IOper} {ex ey : Ev} {σ1 σ2 : St} (h1 : evOp call x σ = some (ex, σ1)) (h2 : evOp call y σ1 = some (ey, σ2)) (ht : apartT x y = true) (ha : ex.apart ey = true) :
    ∃ σ1' σ2', evOp call y σ = some (ey, σ1') ∧ evOp call x σ1' = some (ex, σ2') ∧ Sim σ2 σ2' := by
  simp only [Ev.apart, Bool.and_eq_true, Bool.not_eq_true'] at ha
  obtain ⟨⟨⟨⟨k1, k2⟩, a1⟩, a2⟩, a3⟩ := ha
  obtain ⟨t1, t2, t3⟩ := apartT_spec ht
  obtain ⟨e, A, rfl, rfl⟩ := evOp_k h1 k1
  obtain ⟨e', A', rfl, rfl⟩ := evOp_k h2 k2
  obtain ⟨f1, f2, f3, f4⟩ := aft_facts (d := x.d) (A.tame (τ := σ) rfl)
  have B : Acts call y σ e' := by
    refine A'.local (fun t hl => ?_) (fun k hk => ?_) (fun n hn hc => ?_)
    · rw [f1, if_neg fun h => by rw [t1 t h] at hl; cases hl]
    · rw [f2, lastW_none fun h => meets_spec a1 k h hk]
    · have : ∀ n ∈ e'.n, n ∉ (σ.aft x.d e).cr := by
        rcases A' with ⟨_, rfl⟩ | ⟨_, _, _, h⟩
        · simp
        · exact h
      exact this n hn (by rw [f3]; exact List.mem_append_right _ hc)
  obtain ⟨g1, g2, g3, g4⟩ := aft_facts (d := y.d) (B.tame (τ := σ) rfl)
  have hn' : ∀ n ∈ e'.n, n ∉ (σ.aft x.d e).cr := by
    rcases A' with ⟨_, rfl⟩ | ⟨_, _, _, h⟩
    · simp
    · exact h
  have B' : Acts call x (σ.aft y.d e') e := by
    refine A.local (fun t hl => ?_) (fun k hk => ?_) (fun n hn hc => ?_)
    · rw [g1, if_neg fun h => by rw [t2 t h] at hl; cases hl]
    · rw [g2, lastW_none fun h => meets_spec a3 k hk h]
    · have hn0 : n ∉ σ.cr := by
        rcases A with ⟨_, rfl⟩ | ⟨_, _, _, h⟩
        · simp at hn
        · exact h n hn
      rw [g3] at hc
      rcases List.mem_append.1 hc with hc | hc
      · exact hn' n hc (by rw [f3]; exact List.mem_append_left _ hn)
      · exact hn0 hc
  refine ⟨_, _, evOp_acts B, evOp_acts B', ?_⟩
  obtain ⟨p1, p2, p3, p4⟩ := aft_facts (d := y.d) (A'.tame (τ := σ.aft x.d e) rfl)
  obtain ⟨q1, q2, q3, q4⟩ := aft_facts (d := x.d) (B'.tame (τ := σ.aft y.d e') rfl)
  refine ⟨fun t => ?_, ?_, by rw [q4, g4, p4, f4], fun n => by rw [q3, g3, p3, f3]; simp only [List.mem_append]; constructor <;> (rintro (h | h | h) <;> simp [h])⟩
  · rw [q1, g1, p1, f1]
    by_cases hx : x.d = some t
    · rw [if_pos hx, if_neg (t3 t hx), if_pos hx]
    · rw [if_neg hx, if_neg hx]
  · funext k
    rw [q2, g2, p2, f2]
    by_cases hx : k ∈ keysOf e.w
    · have hy : lastW k e'.w = none := lastW_none (meets_spec a2 k hx)
      rw [hy]
    · rw [lastW_none hx]

/-! ### Runs -/
def RunP (call : CallF) (E : Nat → Ev) : List (Nat × IOper) → St → St → Prop
  | [], σ, σ' => Sim σ σ'
  | (i, o) :: r, σ, σ' => ∃ σ1, evOp call o σ = some (E i, σ1) ∧ RunP call E r σ1 σ'
theorem RunP.sim {E : Nat → Ev} : ∀ {t : List (Nat × IOper)} {σ τ σ' : St}, Sim σ τ → RunP call E t σ σ' → RunP call E t τ σ'
  | [], _, _, _, h, hr => h.symm.trans hr
  | (i, o) :: r, _, _, _, h, ⟨σ1, h1, h2⟩ => by
    obtain ⟨τ1, h3, h4⟩ := evOp_sim h h1
    exact ⟨τ1, h3, h2.sim h4⟩
theorem RunP.move {E : Nat → Ev} {x : Nat × IOper} {q : List (Nat × IOper)} : ∀ {p : List (Nat × IOper)} {σ σ' : St}, RunP call E (p ++ x :: q) σ σ' → (∀ y ∈ p, apartT y.2 x.2 = true ∧ (E y.1).apart (E x.1) = true) →
    ∃ σ1, evOp call x.2 σ = some (E x.1, σ1) ∧ RunP call E (p ++ q) σ1 σ'
  | [], _, _, ⟨σ1, h1, h2⟩, _ => ⟨σ1, h1, h2⟩
  | (i, o) :: p, σ, σ', ⟨σ1, h1, h2⟩, hc => by
    obtain ⟨σ2, h3, h4⟩ := RunP.move h2 fun y hy => hc y (by simp [hy])
    obtain ⟨c1, c2⟩ := hc (i, o) (by simp)
    obtain ⟨σ1', σ2', h5, h6, h7⟩ := swap h1 h3 c1 c2
    exact ⟨σ1', h5, σ2', h6, h4.sim h7⟩
end Go.Ab

namespace Go.Ab
variable {P : Program} {nt : Nat} {w0 : World} {W : Wr} {j : J} {σ τ : St} {a : Act} {w : World} {call : CallF}

theorem lt_of_some {α : Type} {l : List α} {i : Nat} {x : α} (h : l[i]? = some x) : i < l.length := by
  rcases Nat.lt_or_ge i l.length with h' | h'
  · exact h'
  · rw [List.getElem?_eq_none h'] at h; cases h

/-! ### What is ordered -/
theorem befs_pre : ∀ {l : List Oper} {acc : List Nat} {i : Nat}, i < acc.length → (befs acc l).getD i 0 = acc.getD i 0
  | [], _, _, _ => rfl
  | o :: r, acc, i, h => by
    simp only [befs]
    rw [befs_pre (by simp; omega)]
    simp only [List.getD_eq_getElem?_getD]
    rw [List.getElem?_append_left h]
theorem mask_bit {acc : List Nat} {k : Nat} : ∀ {l : List Edge} {s : Nat}, (l.foldl (fun s e => if Region.binds .any e then s ||| 2 ^ e.on ||| acc.getD e.on 0 else s) s).testBit k = true →
    s.testBit k = true ∨ ∃ e ∈ l, Region.binds .any e = true ∧ (e.on = k ∨ (acc.getD e.on 0).testBit k = true)
  | [], s, h => .inl h
  | e :: r, s, h => by
    simp only [List.foldl_cons] at h
    rcases mask_bit h with h | ⟨e', h1, h2⟩
    · split at h
      · rename_i hb
        simp only [Nat.testBit_or, Bool.or_eq_true, Nat.testBit_two_pow, decide_eq_true_eq] at h
        rcases h with (h | h) | h
        · exact .inl h
        · exact .inr ⟨e, by simp, hb, .inl h⟩
        · exact .inr ⟨e, by simp, hb, .inr h⟩
      · exact .inl h
    · exact .inr ⟨e', by simp [h1], h2⟩
theorem befs_spec {k : Nat} : ∀ {l : List Oper} {acc : List Nat} {i : Nat} {o : Oper}, l[i]? = some o → ((befs acc l).getD (acc.length + i) 0).testBit k = true →
    ∃ e ∈ o.after, Region.binds .any e = true ∧ (e.on = k ∨ ((befs acc l).getD e.on 0).testBit k = true)
  | [], _, i, o, h, _ => by simp at h
  | o :: r, acc, 0, o', h, hb => by
    simp at h; subst h
    simp only [befs, Nat.add_zero] at hb
    rw [befs_pre (by simp)] at hb
    simp only [List.getD_eq_getElem?_getD, List.getElem?_concat_length, Option.getD_some] at hb
    simp only [← List.getD_eq_getElem?_getD] at hb
    rcases mask_bit hb with h | ⟨e, h1, h2, h3⟩
    · simp at h
    · refine ⟨e, by simpa using h1, h2, h3.imp id fun h3 => ?_⟩
      have : e.on < acc.length := by
        rcases Nat.lt_or_ge e.on acc.length with h | h
        · exact h
        · rw [List.getD_eq_getElem?_getD, List.getElem?_eq_none h] at h3; simp at h3
      rw [befs_pre this]; exact h3
  | o :: r, acc, i + 1, o', h, hb => by
    have := befs_spec (k := k) (l := r) (acc := acc ++ [o.after.toList.foldl (fun s e => if Region.binds .any e then s ||| 2 ^ e.on ||| acc.getD e.on 0 else s) 0]) (i := i) (o := o') (by simpa using h) (by
      simp only [befs] at hb
      simpa [Nat.add_assoc, Nat.add_comm 1 i] using hb)
    exact this
theorem edges_spec : ∀ {l : List Oper} {k i : Nat} {o : Oper}, edgesOk k l = true → l[i]? = some o → ∀ e ∈ o.after, Region.binds .any e = true → e.on < k + i
  | [], _, _, _, _, h => by simp at h
  | o :: r, k, i, o', h, hi => by
    simp only [edgesOk, Bool.and_eq_true, List.all_eq_true] at h
    intro e he hb
    cases i with
    | zero =>
      simp at hi; subst hi
      have := h.1 e (by simpa using he)
      simpa [hb] using this
    | succ i => have := edges_spec h.2 (by simpa using hi) e he hb; omega
theorem unRow_spec {sw : List Nat} {un : List (Nat × Nat)} {bj : Nat → Nat} {i : Nat} {x : IOper} : ∀ {l : List IOper} {k j : Nat} {y : IOper}, unRow sw un bj i x k l = true → l[j]? = some y →
    (bj (k + j)).testBit i = true ∨ (apartT x y = true ∧ (un.contains (i, k + j) = true ∨ (both x.op y.op = false ∧ swOk sw x = true ∧ swOk sw y = true)))
  | [], _, _, _, _, h => by simp at h
  | b :: r, k, 0, y, h, hj => by
    simp at hj; subst hj
    simp only [unRow, Bool.and_eq_true, Bool.or_eq_true, Bool.not_eq_true'] at h
    rcases h.1 with h | h
    · exact .inl h
    · exact .inr ⟨h.1, h.2.imp id fun h => ⟨h.1.1, h.1.2, h.2⟩⟩
  | b :: r, k, j + 1, y, h, hj => by
    simp only [unRow, Bool.and_eq_true] at h
    have := unRow_spec h.2 (j := j) (by simpa using hj)
    rwa [show k + (j + 1) = k + 1 + j by omega]
theorem unOk_spec {sw : List Nat} {un : List (Nat × Nat)} {bj : Nat → Nat} : ∀ {l : List IOper} {k i j : Nat} {x y : IOper}, unOk sw un bj k l = true → l[i]? = some x → l[j]? = some y → i < j →
    (bj (k + j)).testBit (k + i) = true ∨ (apartT x y = true ∧ (un.contains (k + i, k + j) = true ∨ (both x.op y.op = false ∧ swOk sw x = true ∧ swOk sw y = true)))
  | [], _, _, _, _, _, _, h, _, _ => by simp at h
  | b :: r, k, 0, 0, x, y, h, hi, hj, hlt => by omega
  | b :: r, k, 0, j + 1, x, y, h, hi, hj, hlt => by
    simp at hi; subst hi
    simp only [unOk, Bool.and_eq_true] at h
    have := unRow_spec h.1 (j := j) (by simpa using hj)
    rw [show k + (j + 1) = k + 1 + j by omega]; exact this
  | b :: r, k, i + 1, j, x, y, h, hi, hj, hlt => by
    obtain ⟨j', rfl⟩ : ∃ j', j = j' + 1 := ⟨j - 1, by omega⟩
    simp only [unOk, Bool.and_eq_true] at h
    have := unOk_spec h.2 (i := i) (j := j') (by simpa using hi) (by simpa using hj) (by omega)
    rw [show k + (i + 1) = k + 1 + i by omega, show k + (j' + 1) = k + 1 + j' by omega]; exact this

/-! ### What is compiled -/
structure Comp1 (P : Program) (nt : Nat) (ops : Array Oper) (o : Oper) (io : IOper) : Prop where
  d : io.d = o.dst
  dn : o.dst.getD 0 < nt
  op : ∃ h, compOp P h o.op = some io.op
  g : guardOf ops o.guard = some io.g
  c : closedOp io.op = true
theorem compOpers_spec {ops : Array Oper} : ∀ {os : List Oper} {hs l : List IOper}, compOpers P nt ops os hs = some l → All2 (Comp1 P nt ops) os l
  | [], [], l, h => by simp [compOpers] at h; subst h; trivial
  | [], _ :: _, l, h => by simp [compOpers] at h
  | _ :: _, [], l, h => by simp [compOpers] at h
  | o :: os, h0 :: hs, l, h => by
    simp only [compOpers] at h
    split at h
    · rename_i i g r h1 h2 h3
      split at h <;> simp at h
      rename_i hc
      subst h
      exact ⟨⟨rfl, hc.1, ⟨_, h1⟩, h2, hc.2⟩, compOpers_spec h3⟩
    · cases h

/-! ### What ran -/
def num : Nat → List IOper → List (Nat × IOper)
  | _, [] => []
  | k, o :: r => (k, o) :: num (k + 1) r
theorem num_fst : ∀ (l : List IOper) (k : Nat), (num k l).map (·.1) = List.range' k l.length
  | [], _ => rfl
  | o :: r, k => by simp [num, num_fst r (k + 1), List.range'_succ]
theorem num_mem : ∀ {l : List IOper} {k i : Nat} {o : IOper}, (i, o) ∈ num k l → ∃ m, i = k + m ∧ l[m]? = some o
  | o :: r, k, i, o', h => by
    simp only [num, List.mem_cons, Prod.mk.injEq] at h
    rcases h with ⟨rfl, rfl⟩ | h
    · exact ⟨0, rfl, rfl⟩
    · obtain ⟨m, h1, h2⟩ := num_mem h; exact ⟨m + 1, by omega, by simpa using h2⟩
theorem mem_num : ∀ {l : List IOper} {k m : Nat} {o : IOper}, l[m]? = some o → (k + m, o) ∈ num k l
  | o :: r, k, 0, o', h => by simp at h; subst h; simp [num]
  | o :: r, k, m + 1, o', h => by
    have := mem_num (k := k + 1) (l := r) (m := m) (by simpa using h)
    rw [show k + (m + 1) = k + 1 + m by omega]
    simp only [num]; exact List.mem_cons_of_mem _ this
theorem evOps_run {E : Nat → Ev} : ∀ {l : List IOper} {k : Nat} {σ σ' : St} {es : List Ev}, evOps call l σ = some (es, σ') → (∀ i e, es[i]? = some e → E (k + i) = e) → RunP call E (num k l) σ σ'
  | [], k, σ, σ', es, h, _ => by simp [evOps] at h; obtain ⟨_, rfl⟩ := h; exact Sim.refl _
  | o :: r, k, σ, σ', es, h, hE => by
    simp only [evOps] at h
    split at h
    · rename_i e σ1 h1
      split at h
      · rename_i es' σ2 h2
        simp at h; obtain ⟨rfl, rfl⟩ := h
        refine ⟨σ1, by have := hE 0 e (by simp); rw [Nat.add_zero] at this; rw [this]; exact h1, evOps_run h2 fun i e' hi => ?_⟩
        rw [show k + 1 + i = k + (i + 1) by omega]
        exact hE (i + 1) e' (by simpa using hi)
      · cases h
    · cases h
structure EvTame (o : IOper) (ev : Ev) : Prop where
  pure : isMem o.op = false → ev.r = [] ∧ ev.w = []
  load : isLoad o.op = true → ev.w = []
  maker : isMaker o.op = false → ev.k = false
theorem evOp_tame {o : IOper} {ev : Ev} {σ1 : St} (h : evOp call o σ = some (ev, σ1)) : EvTame o ev := by
  unfold evOp at h
  split at h
  · split at h <;> simp only [Option.some.injEq, Prod.mk.injEq, reduceCtorEq] at h
    rename_i e hf
    obtain ⟨rfl, rfl⟩ := h
    have ht := fp_tame hf
    refine ⟨fun h => ⟨(ht.pure h).1, by rw [(ht.pure h).2.1]; rfl⟩, fun h => by rw [(ht.load h).1]; rfl, fun h => ?_⟩
    have h2 : preK o.op = false := by cases ho : o.op <;> rw [ho] at h <;> simp [isMaker, preK] at h ⊢
    simp [h2, ht.maker h, hits]
  · simp at h; obtain ⟨rfl, rfl⟩ := h; exact ⟨fun _ => ⟨rfl, rfl⟩, fun _ => rfl, fun _ => rfl⟩
  · cases h
theorem evOps_tame : ∀ {l : List IOper} {σ σ' : St} {es : List Ev}, evOps call l σ = some (es, σ') → All2 EvTame l es
  | [], σ, σ', es, h => by simp [evOps] at h; obtain ⟨rfl, rfl⟩ := h; trivial
  | o :: r, σ, σ', es, h => by
    simp only [evOps] at h
    split at h
    · rename_i e σ1 h1
      split at h
      · rename_i es' σ2 h2
        simp at h; obtain ⟨rfl, rfl⟩ := h
        exact ⟨evOp_tame h1, evOps_tame h2⟩
      · cases h
    · cases h
theorem meets_nil : ∀ (l : List Key), meets l [] = false
  | [] => rfl
  | _ :: r => by simp [meets, meets_nil r]
theorem okUn_spec {es : List Ev} : ∀ {un : List (Nat × Nat)} {i j : Nat} {x y : Ev}, okUn es un = true → un.contains (i, j) = true → es[i]? = some x → es[j]? = some y → x.apart y = true
  | [], _, _, _, _, _, h, _, _ => by simp at h
  | (p, q) :: r, i, j, x, y, h, hc, hi, hj => by
    simp only [okUn, Bool.and_eq_true] at h
    simp only [List.contains_cons, Bool.or_eq_true, beq_iff_eq, Prod.mk.injEq] at hc
    rcases hc with ⟨rfl, rfl⟩ | hc
    · have := h.1; rw [hi, hj] at this; exact this
    · exact okUn_spec h.2 hc hi hj
theorem noK_spec {sw : List Nat} : ∀ {l : List IOper} {es : List Ev} {i : Nat} {o : IOper} {e : Ev}, noK sw l es = true → l[i]? = some o → es[i]? = some e → sw.contains (o.d.getD 0) = true → e.k = false
  | [], _, _, _, _, _, h, _, _ => by simp at h
  | _ :: _, [], _, _, _, _, _, h, _ => by simp at h
  | o :: l, e :: es, 0, o', e', h, h1, h2, hs => by
    simp at h1 h2; subst h1; subst h2
    simp only [noK, Bool.and_eq_true, Bool.or_eq_true, Bool.not_eq_true'] at h
    exact h.1.resolve_left (by simpa using hs)
  | o :: l, e :: es, i + 1, o', e', h, h1, h2, hs => by
    simp only [noK, Bool.and_eq_true] at h
    exact noK_spec h.2 (by simpa using h1) (by simpa using h2) hs
theorem both_apart {x y : IOper} {ex ey : Ev} (hx : EvTame x ex) (hy : EvTame y ey) (hb : both x.op y.op = false) (kx : ex.k = false) (ky : ey.k = false) : ex.apart ey = true := by
  simp only [both, Bool.and_eq_false_iff, Bool.not_eq_false', Bool.and_eq_true] at hb
  simp only [Ev.apart, kx, ky, Bool.not_false, Bool.true_and, Bool.and_eq_true, Bool.not_eq_true']
  rcases hb with (h | h) | ⟨h1, h2⟩
  · obtain ⟨h1, h2⟩ := hx.pure h; rw [h1, h2]; exact ⟨⟨rfl, rfl⟩, rfl⟩
  · obtain ⟨h1, h2⟩ := hy.pure h; rw [h1, h2]; exact ⟨⟨meets_nil _, meets_nil _⟩, meets_nil _⟩
  · rw [hx.load h1, hy.load h2]; exact ⟨⟨rfl, rfl⟩, meets_nil _⟩

/-! ### A region -/
theorem Rel.drawn (hr : Rel nt w0 W j σ a w) : Rel nt w0 W j σ a { w with drawn := w.drawn + 1 } :=
  ⟨hr.n, hr.df, hr.env, ⟨hr.hp.non, fun k b p hk hj => let h := hr.hp.som k b p hk hj; ⟨h.lt, h.sz, h.own, h.len, h.pl, h.rd, h.ow⟩, hr.hp.dis⟩,
    ⟨hr.fr.os, hr.fr.tape, hr.fr.output, hr.fr.size, hr.fr.block⟩, hr.ow, hr.ek, hr.hk, hr.jo, hr.oo, hr.lo⟩
theorem run_text (hS : CallSound P call) {ops : Array Oper} {Q : Exit → Act → World → Prop} {E : Nat → Ev} {σ' : St} (hQ : ∀ j' a' w', Rel nt w0 W j' σ' a' w' → Q .normal a' w') :
    ∀ {t : List (Nat × IOper)} {σ : St} {j : J} {a : Act} {w : World}, (∀ x ∈ t, ∃ o, ops[x.1]? = some o ∧ Comp1 P nt ops o x.2) → RunP call E t σ σ' → Rel nt w0 W j σ a w → wpOps P ops Q (t.map (·.1)) a w
  | [], σ, j, a, w, _, h, hr => hQ j a w (hr.sim h)
  | (i, io) :: t, σ, j, a, w, hc, ⟨σ1, h1, h2⟩, hr => by
    obtain ⟨o, ho, hc1⟩ := hc (i, io) (by simp)
    obtain ⟨h, hop⟩ := hc1.op
    rw [List.map_cons, wpOps_cons]
    exact op_step hr hS ho hc1.d hc1.dn hop hc1.g hc1.c h1 fun j' a' w' hr' => run_text hS hQ (fun x hx => hc x (by simp [hx])) h2 hr'
theorem run_any (hS : CallSound P call) {ops : Array Oper} {Q : Exit → Act → World → Prop} {E : Nat → Ev} {σ' : St} {bj : Nat → Nat} (hQ : ∀ j' a' w', Rel nt w0 W j' σ' a' w' → Q .normal a' w')
    (hb : ∀ i o k, ops[i]? = some o → (bj i).testBit k = true → ∃ e ∈ o.after, Region.binds .any e = true ∧ (e.on = k ∨ (bj e.on).testBit k = true)) (hed : ∀ i o, ops[i]? = some o → ∀ e ∈ o.after, Region.binds .any e = true → e.on < i) :
    ∀ (fuel : Nat) {t : List (Nat × IOper)} {listed : Array Bool} {σ : St} {j : J} {a : Act} {w : World}, (∀ x ∈ t, ∃ o, ops[x.1]? = some o ∧ Comp1 P nt ops o x.2) → t.Pairwise (fun x y => x.1 < y.1) →
      (∀ x ∈ t, ∀ y ∈ t, x.1 < y.1 → (bj y.1).testBit x.1 = true ∨ (apartT x.2 y.2 = true ∧ (E x.1).apart (E y.1) = true)) →
      (∀ i, listed.getD i true = false ↔ ∃ io, (i, io) ∈ t) → (∀ i k, listed.getD i false = true → (bj i).testBit k = true → listed.getD k false = true) → listed.size = ops.size → t.length ≤ fuel →
      RunP call E t σ σ' → Rel nt w0 W j σ a w → wpAny P .any ops Q fuel listed a w := by
  have ready_nil : ∀ {t : List (Nat × IOper)} {listed : Array Bool}, (∀ x ∈ t, ∃ o, ops[x.1]? = some o ∧ Comp1 P nt ops o x.2) → t.Pairwise (fun x y => x.1 < y.1) → (∀ i, listed.getD i true = false ↔ ∃ io, (i, io) ∈ t) → listed.size = ops.size → Region.ready .any ops listed = [] → t = [] := by
    intro t listed hc hs hl hsz h0
    cases t with
    | nil => rfl
    | cons x t =>
      exfalso
      obtain ⟨o, ho, _⟩ := hc x (by simp)
      have : x.1 ∈ Region.ready .any ops listed := by
        rw [mem_ready]
        refine ⟨(hl x.1).2 ⟨x.2, by simp⟩, o, ho, fun e he hbd => ?_⟩
        have hlt := hed _ _ ho e he hbd
        have hxs : x.1 < ops.size := (Array.getElem?_eq_some_iff.1 ho).1
        have hin : e.on < listed.size := by omega
        have hne : listed.getD e.on true ≠ false := by
          intro hf
          obtain ⟨io, hm⟩ := (hl e.on).1 hf
          rcases List.mem_cons.1 hm with hm | hm
          · rw [← hm] at hlt; exact Nat.lt_irrefl _ hlt
          · have := (List.pairwise_cons.1 hs).1 _ hm; simp at this; omega
        simp only [Array.getD_eq_getD_getElem?, Array.getElem?_eq_getElem hin, Option.getD_some] at hne ⊢
        simpa using hne
      rw [h0] at this; cases this
  intro fuel
  induction fuel with
  | zero =>
    intro t listed σ j a w hc hs hcm hl hcl hsz hf hrun hr
    have : t = [] := List.length_eq_zero_iff.1 (by omega)
    subst this
    refine ⟨?_, hQ j a w (hr.sim hrun)⟩
    rw [List.eq_nil_iff_forall_not_mem]
    intro i hi
    obtain ⟨h0, _⟩ := mem_ready.1 hi
    obtain ⟨io, hm⟩ := (hl i).1 h0
    cases hm
  | succ fuel ih =>
    intro t listed σ j a w hc hs hcm hl hcl hsz hf hrun hr
    refine ⟨fun h0 => ?_, fun i hi => ?_⟩
    · have := ready_nil hc hs hl hsz h0
      subst this
      exact hQ j a w (hr.sim hrun)
    · obtain ⟨h0, o, ho, hall⟩ := mem_ready.1 hi
      obtain ⟨io, hm⟩ := (hl i).1 h0
      obtain ⟨p, q, rfl⟩ := List.append_of_mem hm
      obtain ⟨o', ho', hc1⟩ := hc (i, io) (by simp)
      rw [ho] at ho'; cases ho'
      obtain ⟨h, hop⟩ := hc1.op
      have hpi : ∀ y ∈ p, y.1 < i := fun y hy => (List.pairwise_append.1 hs).2.2 y hy (i, io) (by simp)
      have hqi : ∀ y ∈ q, i < y.1 := fun y hy => (List.pairwise_cons.1 (List.pairwise_append.1 hs).2.1).1 y hy
      have hbits : ∀ k, (bj i).testBit k = true → listed.getD k false = true := fun k hk => by
        obtain ⟨e, h1, h2, h3⟩ := hb i o k ho hk
        have := hall e h1 h2
        rcases h3 with rfl | h3
        · exact this
        · exact hcl e.on k this h3
      have hun : ∀ k, listed.getD k true = false → listed.getD k false = false := fun k hk => by
        rcases Nat.lt_or_ge k listed.size with h | h
        · simp only [Array.getD_eq_getD_getElem?, Array.getElem?_eq_getElem h, Option.getD_some] at hk ⊢; exact hk
        · simp [Array.getElem?_eq_none h] at hk
      have hsub : ∀ x ∈ p ++ q, x ∈ p ++ (i, io) :: q := fun x hx => by
        simp only [List.mem_append, List.mem_cons] at hx ⊢
        exact hx.imp id .inr
      obtain ⟨σ1, h1, h2⟩ := RunP.move (x := (i, io)) hrun fun y hy => by
        rcases hcm y (by simp [hy]) (i, io) (by simp) (hpi y hy) with h | h
        · have h3 := hbits _ h
          rw [hun y.1 ((hl y.1).2 ⟨y.2, by simp [hy]⟩)] at h3; cases h3
        · exact h
      refine op_step hr hS ho hc1.d hc1.dn hop hc1.g hc1.c h1 fun j' a' w' hr' => ih (t := p ++ q) (fun x hx => hc x (hsub x hx)) ?_ (fun x hx y hy => hcm x (hsub x hx) y (hsub y hy)) (fun k => ?_) (fun k m hk hbm => ?_) (by simpa using hsz) (by simp at hf ⊢; omega) h2 hr'
      · refine hs.sublist ?_
        exact List.Sublist.append (List.Sublist.refl _) (List.sublist_cons_self _ _)
      · by_cases hki : k = i
        · subst hki
          have hlt : k < listed.size := by rw [hsz]; exact (Array.getElem?_eq_some_iff.1 ho).1
          constructor
          · intro h; simp [hlt] at h
          · rintro ⟨io', hm'⟩
            rcases List.mem_append.1 hm' with h | h
            · exact absurd (hpi _ h) (Nat.lt_irrefl _)
            · exact absurd (hqi _ h) (Nat.lt_irrefl _)
        · rw [getD_set_ne true (Ne.symm hki), hl k]
          constructor
          · rintro ⟨io', hm'⟩
            refine ⟨io', ?_⟩
            simp only [List.mem_append, List.mem_cons, Prod.mk.injEq] at hm' ⊢
            rcases hm' with h | ⟨h, _⟩ | h
            · exact .inl h
            · exact absurd h hki
            · exact .inr h
          · rintro ⟨io', hm'⟩
            refine ⟨io', ?_⟩
            simp only [List.mem_append, List.mem_cons] at hm' ⊢
            exact hm'.imp id .inr
      · by_cases hki : k = i
        · subst hki; exact getD_set_true (hbits m hbm)
        · rw [getD_set_ne false (Ne.symm hki)] at hk
          exact getD_set_true (hcl k m hk hbm)
theorem num_sorted : ∀ (l : List IOper) (k : Nat), (num k l).Pairwise (fun x y => x.1 < y.1)
  | [], _ => .nil
  | o :: r, k => by
    simp only [num]
    refine List.pairwise_cons.2 ⟨fun y hy => ?_, num_sorted r (k + 1)⟩
    obtain ⟨i, o'⟩ := y
    obtain ⟨m, h1, _⟩ := num_mem hy
    simp; omega
theorem sweep_rel (hr : Rel nt w0 W j σ a w) (sw : List Nat) : Rel nt w0 W j (σ.sweep sw) a w := by
  unfold St.sweep
  split
  · exact hr
  · exact kill_rel hr _
theorem reg_sound (hS : CallSound P call) (hm : P.follows .mixedOrders = true) {id : Nat} {ops : Array Oper} {draw : Bool} {Q : Exit → Act → World → Prop} {hs l : List IOper} {sw : List Nat} {un : List (Nat × Nat)} (hc : compOpers P nt ops ops.toList hs = some l)
    (hd : draw = false ∨ (edgesOk 0 ops.toList = true ∧ unOk sw un (fun j => (befs [] ops.toList).getD j 0) 0 l = true)) {σ1 : St} (he : evReg call draw sw un l σ = some σ1) (hr : Rel nt w0 W j σ a w)
    (hQ : ∀ j' a' w', Rel nt w0 W j' σ1 a' w' → Q .normal a' w') : (Code.region id ops draw).wp P Q a w := by
  have hC := compOpers_spec hc
  have hlen := hC.length
  simp only [Array.length_toList] at hlen
  unfold evReg at he
  split at he
  rotate_left
  · cases he
  rename_i es σ' hes
  split at he
  rotate_left
  · cases he
  rename_i hok
  simp at he; subst he
  have hT := evOps_tame hes
  let E : Nat → Ev := fun i => es.getD i ⟨[], [], false⟩
  have hE : ∀ i e, es[i]? = some e → E i = e := fun i e h => by simp [E, h]
  have hrun := evOps_run (E := E) (k := 0) hes fun i e h => by rw [Nat.zero_add]; exact hE i e h
  have hcomp : ∀ x ∈ num 0 l, ∃ o, ops[x.1]? = some o ∧ Comp1 P nt ops o x.2 := by
    rintro ⟨i, io⟩ hx
    obtain ⟨m, rfl, h2⟩ := num_mem hx
    have hlt : m < ops.size := by rw [hlen]; exact lt_of_some h2
    have hos : ops.toList[m]? = some ops[m] := by simp [hlt]
    obtain ⟨b, h3, h4⟩ := hC.get hos
    rw [h2] at h3; cases h3
    exact ⟨ops[m], by simp [hlt], h4⟩
  cases draw with
  | false =>
    refine wp_region ?_
    have : List.range ops.size = (num 0 l).map (·.1) := by rw [num_fst, hlen, List.range_eq_range']
    rw [this]
    exact run_text hS hQ hcomp hrun (by simpa using hr)
  | true =>
    obtain ⟨hed, hun⟩ := hd.resolve_left (by simp)
    simp only [if_true] at hrun hes
    refine wp_region_any hm ?_
    refine run_any hS (bj := fun j => (befs [] ops.toList).getD j 0) hQ (fun i o k ho hbt => ?_) (fun i o ho e he hb => ?_) ops.size hcomp (num_sorted l 0) ?_ (fun i => ?_) (fun i k hi => ?_) (by simp) ?_ hrun (sweep_rel hr sw).drawn
    · have := befs_spec (acc := []) (l := ops.toList) (i := i) (o := o) (k := k) (by simpa using ho) (by simpa using hbt)
      exact this
    · have := edges_spec hed (i := i) (o := o) (by simpa using ho) e he hb; omega
    · rintro ⟨i, x⟩ hx ⟨k, y⟩ hy hlt
      obtain ⟨m, rfl, h1⟩ := num_mem hx
      obtain ⟨m', rfl, h2⟩ := num_mem hy
      simp only [Nat.zero_add] at hlt ⊢
      rcases unOk_spec hun h1 h2 hlt with h | ⟨h3, h4⟩
      · left; simpa using h
      · right
        refine ⟨h3, ?_⟩
        obtain ⟨ex, q1, t1⟩ := hT.get h1
        obtain ⟨ey, q2, t2⟩ := hT.get h2
        rw [hE _ _ q1, hE _ _ q2]
        rcases h4 with h4 | ⟨h4, h5, h6⟩
        · simp only [Nat.zero_add] at h4
          exact okUn_spec hok.1 h4 q1 q2
        · have kk : ∀ {m : Nat} {x : IOper} {ex : Ev}, l[m]? = some x → es[m]? = some ex → EvTame x ex → swOk sw x = true → ex.k = false := by
            intro m x ex g1 g2 g3 g4
            simp only [swOk, Bool.or_eq_true, Bool.not_eq_true'] at g4
            rcases g4 with g4 | g4
            · exact g3.maker g4
            · exact noK_spec (hok.2 rfl) g1 g2 g4
          exact both_apart t1 t2 h4 (kk h1 q1 t1 h5) (kk h2 q2 t2 h6)
    · constructor
      · intro h
        have hlt : i < ops.size := by
          rcases Nat.lt_or_ge i ops.size with h' | h'
          · exact h'
          · simp [Array.getElem?_eq_none, h'] at h
        have hlt2 : i < l.length := by omega
        exact ⟨l[i], by have := mem_num (l := l) (k := 0) (m := i) (o := l[i]) (by simp [hlt2]); rwa [Nat.zero_add] at this⟩
      · rintro ⟨io, hx⟩
        obtain ⟨m, rfl, h1⟩ := num_mem hx
        have hlt : m < ops.size := by rw [hlen]; exact lt_of_some h1
        simp [hlt]
    · intro _
      exfalso
      rcases Nat.lt_or_ge i ops.size with h' | h'
      · simp [h'] at hi
      · simp [h'] at hi
    · have h2 : (num 0 l).length = l.length := by
        have := congrArg List.length (num_fst l 0); simpa using this
      rw [h2]; omega
end Go.Ab

namespace Go.Ab
variable {P : Program} {nt : Nat} {w0 : World} {W : Wr} {j : J} {σ τ : St} {a : Act} {w : World} {call : CallF}

def Ex.toExit : Ex → Exit
  | .normal => .normal
  | .exit id => .exit id
  | .ret => .ret
theorem trim_rel (hr : Rel nt w0 W j σ a w) (tr bx : List Nat) : Rel nt w0 W j (σ.trim tr bx) a w := by
  have hg : ∀ k b, (σ.trim tr bx).get k = some b → σ.get k = some b := fun k b h => by
    cases k with
    | o i => exact h
    | l s =>
      simp only [St.trim, St.get, lk_delAll] at h
      split at h
      · cases h
      · exact h
  have he : ∀ t, (σ.trim tr bx).ev (.t t) = .c .junk ∨ (σ.trim tr bx).ev (.t t) = σ.ev (.t t) := fun t => by
    simp only [St.trim, St.ev, lk_delAll]
    split
    · exact .inl rfl
    · exact .inr rfl
  refine ⟨hr.n, hr.df, fun t => ?_, ⟨fun k b h => hr.hp.non k b (hg k b h), fun k b p h => hr.hp.som k b p (hg k b h), fun k k' b b' p p' h h' => hr.hp.dis k k' b b' p p' (hg k b h) (hg k' b' h')⟩, hr.fr, fun k b p h => hr.ow k b p (hg k b h), fun t k hk => ?_, fun k b h => hr.hk k b (hg k b h), hr.jo, fun i b h => hr.oo i b (hg _ b h), fun s b h => hr.lo s b (hg _ b h)⟩
  · rcases he t with h | h
    · rw [h]; trivial
    · rw [h]; exact hr.env t
  · rcases he t with h | h
    · rw [h] at hk; simp [V.keys, V.keys1, Cell.keys] at hk
    · rw [h] at hk; exact hr.ek t k hk
theorem code_sound (hS : CallSound P call) (hm : P.follows .mixedOrders = true) : ∀ {c : Code} {h k : ICode} {x : Ex} {σ σ1 : St} {j : J} {a : Act} {w : World} {Q : Exit → Act → World → Prop}, compC P nt c h = some k → evCode call k σ = some (x, σ1) → Rel nt w0 W j σ a w →
    (∀ j' a' w', Rel nt w0 W j' σ1 a' w' → Q x.toExit a' w') → c.wp P Q a w
  | c, h, k, x, σ, σ1, j, a, w, Q, hc, he, hr, hQ => by
    cases c with
    | skip =>
      cases h <;> simp [compC] at hc
      subst hc
      simp [evCode] at he
      obtain ⟨rfl, rfl⟩ := he
      exact wp_skip (hQ j a w hr)
    | region id ops draw =>
      cases h <;> simp only [compC, reduceCtorEq] at hc
      split at hc
      · rename_i l hl
        split at hc <;> simp only [Option.some.injEq, reduceCtorEq] at hc
        rename_i hd
        subst hc
        simp only [evCode] at he
        split at he <;> simp only [Option.some.injEq, Prod.mk.injEq, reduceCtorEq] at he
        rename_i σ' hreg
        obtain ⟨rfl, rfl⟩ := he
        exact reg_sound hS hm hl hd hreg hr hQ
      · cases hc
    | seq c d =>
      cases h <;> simp only [compC, reduceCtorEq] at hc
      split at hc <;> simp only [Option.some.injEq, reduceCtorEq] at hc
      rename_i x' y' h1 h2
      subst hc
      refine wp_seq ?_
      simp only [evCode, thenC] at he
      split at he
      · rename_i σ' h3
        exact code_sound hS hm h1 h3 hr fun j' a' w' hr' => code_sound hS hm h2 he hr' hQ
      · rename_i hne
        refine code_sound hS hm h1 he hr fun j' a' w' hr' => ?_
        have := hQ j' a' w' hr'
        cases x with
        | normal => exact absurd he (hne σ1)
        | exit i => exact this
        | ret => exact this
    | cond o c d =>
      cases h <;> simp only [compC, reduceCtorEq] at hc
      split at hc <;> simp only [Option.some.injEq, reduceCtorEq] at hc
      rename_i s x' y' h0 h1 h2
      subst hc
      simp only [evCode] at he
      split at he
      · rename_i t ht
        have hv := src_rel hr h0
        rw [ht] at hv
        refine wp_cond (t := t) hv ?_
        cases t with
        | true => simp only [if_true] at he ⊢; exact code_sound hS hm h1 he hr hQ
        | false => simp only [Bool.false_eq_true, if_false] at he ⊢; exact code_sound hS hm h2 he hr hQ
      · cases he
    | block id c =>
      cases h <;> simp only [compC, reduceCtorEq, Option.map_eq_some_iff] at hc
      obtain ⟨x', h1, rfl⟩ := hc
      refine wp_block ?_
      simp only [evCode, inB] at he
      split at he
      · rename_i i σ' h2
        split at he <;> simp only [Option.some.injEq, Prod.mk.injEq] at he
        · rename_i hi; subst hi
          obtain ⟨rfl, rfl⟩ := he
          refine code_sound hS hm h1 h2 hr fun j' a' w' hr' => ?_
          simpa [Exit.inBlock, Ex.toExit] using hQ j' a' w' hr'
        · rename_i hi
          obtain ⟨rfl, rfl⟩ := he
          refine code_sound hS hm h1 h2 hr fun j' a' w' hr' => ?_
          simpa [Exit.inBlock, Ex.toExit, hi] using hQ j' a' w' hr'
      · rename_i hne
        refine code_sound hS hm h1 he hr fun j' a' w' hr' => ?_
        have := hQ j' a' w' hr'
        cases x with
        | normal => exact this
        | exit i => exact absurd he (hne i σ1)
        | ret => exact this
    | loop c =>
      cases h <;> simp only [compC, reduceCtorEq, Option.map_eq_some_iff] at hc
      obtain ⟨x', h1, rfl⟩ := hc
      rename_i tr bx _
      simp only [evCode] at he
      have key : ∀ (n : Nat) {σ : St} {j : J} {a : Act} {w : World}, evLoop (evCode call x') tr bx n σ = some (x, σ1) → Rel nt w0 W j σ a w → Code.rounds P c Q n a w := by
        intro n
        induction n with
        | zero => intro σ j a w h; simp [evLoop] at h
        | succ n ih =>
          intro σ j a w h hr
          rw [rounds_succ]
          simp only [evLoop] at h
          split at h
          · rename_i σ' h2
            exact code_sound hS hm h1 h2 hr fun j' a' w' hr' => ih h (trim_rel hr' tr bx)
          · rename_i hne
            refine code_sound hS hm h1 h hr fun j' a' w' hr' => ?_
            have := hQ j' a' w' hr'
            cases x with
            | normal => exact absurd h (hne σ1)
            | exit i => exact this
            | ret => exact this
      exact wp_loop_rounds _ (key _ he hr)
    | exit id =>
      cases h <;> simp [compC] at hc
      subst hc
      simp [evCode] at he
      obtain ⟨rfl, rfl⟩ := he
      exact wp_exit (hQ j a w hr)
    | ret =>
      cases h <;> simp [compC] at hc
      subst hc
      simp [evCode] at he
      obtain ⟨rfl, rfl⟩ := he
      exact wp_ret (hQ j a w hr)
    | _ => cases h <;> simp [compC] at hc
end Go.Ab

namespace Go.Ab
variable {P : Program} {nt : Nat} {w0 : World} {W : Wr} {j : J} {σ τ : St} {a : Act} {w : World} {call : CallF}

theorem RelV1.up {x : V} {v : Value} (h : RelV1 j x v) : RelV j x v := by
  cases x with
  | tup l => exact h.elim
  | c x => exact h
  | agg l => exact h
theorem RelV.dn {x : V} {v : Value} (h : RelV j x v) (ht : ∀ l, x ≠ .tup l) : RelV1 j x v := by
  cases x with
  | tup l => exact absurd rfl (ht l)
  | c x => exact h
  | agg l => exact h
theorem mkV_noTup {g : Bool} {cs : List Cell} {x : V} (h : mkV g cs = some x) : ∀ l, x ≠ .tup l := by
  unfold mkV at h
  split at h <;> simp at h <;> subst h <;> intro l e <;> cases e
/-- One result. -/
def result1 (tmps : Array Value) : ResultVar → Sem Value
  | .tmp t => pure (tmps.getD t undef)
  | .cell a t => do loadVar t (← asAddr (tmps.getD a undef))
theorem result_run (hr : Rel nt w0 W j σ a w) {r : ResultVar} {ir : IRes} {v : V} (hc : compR P r = some ir) (hv : resV σ ir = some v) : ∃ u, (result1 a.tmps r).run P w = .ok u w ∧ RelV1 j v u := by
  cases r with
  | tmp t =>
    simp [compR] at hc; subst hc
    simp only [resV] at hv
    have := hr.env t
    simp only [St.ev] at this
    split at hv
    · cases hv
    · rename_i hne
      simp at hv; subst hv
      exact ⟨_, rfl, this.dn hne⟩
  | cell t ty =>
    simp only [compR, Option.map_eq_some_iff] at hc
    obtain ⟨⟨g, n⟩, h1, rfl⟩ := hc
    simp only [resV] at hv
    have hp := hr.env t
    simp only [St.ev] at hp
    split at hv
    · rename_i p he
      rw [he] at hp
      obtain ⟨pl, hj, hpv⟩ := hp
      split at hv
      · rename_i b hb
        split at hv
        · rename_i e hee
          split at hv
          · rename_i hle
            have hB := hr.hp.som _ _ _ hb hj
            obtain ⟨vs, q1, q2, q3⟩ := row_reads hB hee p.o n hle
            have hrun := run_loadVar h1 w (addrOf pl p.i p.o) vs q1 q3
            have hnt := mkV_noTup hv
            obtain ⟨m1, m2⟩ := mkV_rel hv q2
            refine ⟨if g then .agg vs.toArray else vs.getD 0 undef, by simp only [result1, Sem.run_bind, hpv]; simpa [asAddr] using hrun, ?_⟩
            cases g with
            | true => exact (m1 rfl).dn hnt
            | false => obtain ⟨u, rfl, m3⟩ := m2 rfl; exact m3.dn hnt
          · cases hv
        · cases hv
      · cases hv
    · cases hv
theorem results_run (hr : Rel nt w0 W j σ a w) : ∀ {rs : List ResultVar} {irs : List IRes} {vs : List V}, compRs P rs = some irs → resVs σ irs = some vs → ∃ us : List Value, (rs.mapM (result1 a.tmps)).run P w = .ok us w ∧ All2 (RelV1 j) vs us
  | [], irs, vs, hc, hv => by
    simp [compRs] at hc; subst hc
    simp [resVs] at hv; subst hv
    exact ⟨[], rfl, trivial⟩
  | r :: rs, irs, vs, hc, hv => by
    simp only [compRs] at hc
    split at hc <;> simp at hc
    rename_i ir irs' h1 h2
    subst hc
    simp only [resVs] at hv
    split at hv <;> simp at hv
    rename_i v vs' h3 h4
    subst hv
    obtain ⟨u, q1, q2⟩ := result_run hr h1 h3
    obtain ⟨us, q3, q4⟩ := results_run hr h2 h4
    exact ⟨u :: us, by simp [List.mapM_cons, q1, q3], q2, q4⟩
theorem results_done (hr : Rel nt w0 W j σ a w) {fn : Func} {irs : List IRes} {vs : List V} (hc : compRs P fn.results.toList = some irs) (hv : resVs σ irs = some vs) : ∃ v, (results fn a.tmps).run P w = .ok v w ∧ RelV j (one vs) v := by
  obtain ⟨us, h1, h2⟩ := results_run hr hc hv
  have hm : (fn.results.mapM (result1 a.tmps)).run P w = .ok us.toArray w := by
    rw [Array.mapM_eq_mapM_toList]; simp [h1]
  have hl := h2.length
  refine ⟨if h : us.toArray.size = 1 then us.toArray[0] else .tuple us.toArray, ?_, ?_⟩
  · have : results fn a.tmps = (fn.results.mapM (result1 a.tmps)) >>= fun vs => pure (if h : vs.size = 1 then vs[0] else .tuple vs) := by
      unfold results
      congr 1
    rw [this]; simp [hm]
  · match vs, us, hl, h2 with
    | [], [], _, _ => exact ⟨[], rfl, trivial⟩
    | [v], [u], _, h2 => simpa [one] using h2.1.up
    | v :: v' :: vs, u :: u' :: us, _, h2 => exact ⟨u :: u' :: us, by simp, h2⟩
theorem args0_lk : ∀ (args : List V) (k t : Nat), lk t (args0 k args) = if k ≤ t then args[t - k]? else none
  | [], k, t => by simp [args0, lk]
  | v :: r, k, t => by
    simp only [args0, lk, args0_lk r (k + 1) t]
    by_cases h : k = t
    · subst h; simp
    · rw [if_neg h]
      by_cases h' : k + 1 ≤ t
      · rw [if_pos h', if_pos (by omega), show t - k = (t - (k + 1)) + 1 by omega]; simp
      · rw [if_neg h', if_neg (by omega)]
theorem reachL_nodup {loc : List (Nat × Blk)} : ∀ {n : Nat} {ks acc κs : List Key}, reachL loc n ks acc = some κs → acc.Nodup → κs.Nodup
  | n, [], acc, κs, h, hd => by
    have : acc = κs := by cases n <;> simpa [reachL] using h
    exact this ▸ hd
  | 0, k :: ks, acc, κs, h, hd => by simp [reachL] at h
  | n + 1, .o i :: ks, acc, κs, h, hd => by simp only [reachL] at h; exact reachL_nodup h hd
  | n + 1, .l s :: ks, acc, κs, h, hd => by
    simp only [reachL] at h
    split at h
    · exact reachL_nodup h hd
    · rename_i hc
      split at h
      · cases h
      · refine reachL_nodup h ?_
        rw [List.nodup_append]
        refine ⟨hd, by simp, fun a ha b hb e => ?_⟩
        simp only [List.mem_singleton] at hb; subst hb; subst e
        simp at hc; exact hc ha
theorem resG_o {os : List (Option Blk)} {news : List Blk} (i : Nat) : resG os news (.o i) = (os[i]?).getD none := rfl
/-- What leaves a function. -/
theorem export_done {out : List Blk} {j0 : J} (hr : Rel nt w0 ⟨ownB j0 out, fun i => j0 (.o i), fun i => match out[i]? with | some b => b.own | none => false⟩ j σ a w) {x v : V} {os : List (Option Blk)} {news : List Blk} (he : export1 σ x = some (v, os, news)) {u : Value} (hx : RelV j x u) :
    ∃ j', (∀ i, j' (.o i) = j0 (.o i)) ∧ RelV j' v u ∧ RelH j' (resG os news) w ∧ RelW w0 (ownB j0 out) w ∧
        (∀ b ∈ news, b.own = true) ∧ (∀ (i : Nat) (b : Blk) (p : Place), news[i]? = some b → j' (.l i) = some p → w0.heap.size ≤ p.block ∨ ownB j0 out p.block) ∧
        (∀ (i : Nat) (b b' : Blk), out[i]? = some b → b.own = true → os[i]? = some (some b') → b'.own = true) := by
  have hoo : ∀ i b b', out[i]? = some b → b.own = true → σ.get (.o i) = some b' → b'.own = true := fun i b b' h1 h2 h3 => hr.oo i b' h3 (by simp [h1, h2])
  unfold export1 at he
  split at he
  · simp only [Option.some.injEq, Prod.mk.injEq] at he
    obtain ⟨rfl, rfl, rfl⟩ := he
    have hg : ∀ k b, resG σ.out [] k = some b → σ.get k = some b := fun k b h => by
      cases k with
      | o i => exact h
      | l i => simp [resG] at h
    refine ⟨j, hr.jo, hx, ⟨fun k b h => hr.hp.non k b (hg k b h), fun k b p h => hr.hp.som k b p (hg k b h), fun k k' b b' p p' h h' => hr.hp.dis k k' b b' p p' (hg k b h) (hg k' b' h')⟩, hr.fr, by simp, by simp, fun i b b' h1 h2 h3 => hoo i b b' h1 h2 (by simp [St.get, h3])⟩
  · split at he
    · cases he
    rename_i κs hκ
    split at he
    · cases he
    rename_i bs hbs
    simp only [Option.some.injEq, Prod.mk.injEq] at he
    obtain ⟨rfl, rfl, rfl⟩ := he
    have hnd := reachL_nodup hκ (by simp)
    obtain ⟨hlen, hget⟩ := getAll_spec hbs
    let j' : J := fun k => match k with | .o i => j (.o i) | .l i => (κs[i]?).bind j
    have hρ : ∀ k k', expR κs k = some k' → j' k' = j k := by
      intro k k' h
      cases k with
      | o i => simp [expR] at h; subst h; rfl
      | l s =>
        simp only [expR, Option.map_eq_some_iff] at h
        obtain ⟨i, h1, rfl⟩ := h
        have := (place_spec h1).2
        simp only [Nat.sub_zero] at this
        simp [j', this]
    have hO : ∀ i b, ((σ.out.map (Option.map (Blk.ren (expR κs))))[i]?).getD none = some b → ∃ b0 : Blk, σ.get (.o i) = some b0 ∧ b = b0.ren (expR κs) := by
      intro i b h
      simp only [List.getElem?_map] at h
      cases ho : σ.out[i]? with
      | none => simp [ho] at h
      | some ob =>
        simp only [ho, Option.map_some, Option.getD_some, Option.map_eq_some_iff] at h
        obtain ⟨b0, rfl, rfl⟩ := h
        exact ⟨b0, by simp [St.get, ho], rfl⟩
    have hN : ∀ (i : Nat) (b : Blk), (bs.map (Blk.ren (expR κs)))[i]? = some b → ∃ (s : Nat) (b0 : Blk), κs[i]? = some (.l s) ∧ σ.get (.l s) = some b0 ∧ b = b0.ren (expR κs) ∧ j' (.l i) = j (.l s) := by
      intro i b h
      simp only [List.getElem?_map, Option.map_eq_some_iff] at h
      obtain ⟨b0, h1, rfl⟩ := h
      have hi : i < κs.length := by rw [hlen]; exact lt_of_some h1
      have hk : κs[i]? = some κs[i] := by simp [hi]
      have h2 := hget i _ hk
      rw [h1] at h2
      cases hs : κs[i] with
      | o m => rw [hs] at h2; simp [ownGet] at h2
      | l s =>
        rw [hs] at h2 hk
        exact ⟨s, b0, hk, h2, rfl, by simp [j', hk]⟩
    have hG : ∀ k b, resG (σ.out.map (Option.map (Blk.ren (expR κs)))) (bs.map (Blk.ren (expR κs))) k = some b → ∃ (k0 : Key) (b0 : Blk), σ.get k0 = some b0 ∧ b = b0.ren (expR κs) ∧ j' k = j k0 ∧
        ((∃ i, k = .o i ∧ k0 = .o i) ∨ ∃ i s, k = .l i ∧ k0 = .l s ∧ κs[i]? = some (.l s)) := by
      intro k b h
      cases k with
      | o i => obtain ⟨b0, h1, h2⟩ := hO i b h; exact ⟨.o i, b0, h1, h2, rfl, .inl ⟨i, rfl, rfl⟩⟩
      | l i => obtain ⟨s, b0, h1, h2, h3, h4⟩ := hN i b h; exact ⟨.l s, b0, h2, h3, h4, .inr ⟨i, s, rfl, rfl, h1⟩⟩
    refine ⟨j', hr.jo, hx.ren hρ, ⟨fun k b h hj => ?_, fun k b p h hj => ?_, fun k k' b b' p p' h h' hne ho hj hj' => ?_⟩, hr.fr, fun b hb => ?_, fun i b p h hj => ?_, fun i b b' h1 h2 h3 => ?_⟩
    · obtain ⟨k0, b0, q1, rfl, q3, _⟩ := hG k b h
      exact Blk.ren_nil (hr.hp.non k0 b0 q1 (by rw [← q3]; exact hj))
    · obtain ⟨k0, b0, q1, rfl, q3, _⟩ := hG k b h
      exact (hr.hp.som k0 b0 p q1 (by rw [← q3]; exact hj)).ren hρ
    · obtain ⟨k0, b0, q1, rfl, q3, q4⟩ := hG k b h
      obtain ⟨k0', b0', q1', rfl, q3', q4'⟩ := hG k' b' h'
      refine hr.hp.dis k0 k0' b0 b0' p p' q1 q1' ?_ (by rwa [Blk.ren_own] at ho) (by rw [← q3]; exact hj) (by rw [← q3']; exact hj')
      intro e; subst e
      apply hne
      rcases q4 with ⟨i, rfl, rfl⟩ | ⟨i, s, rfl, rfl, q4⟩ <;> rcases q4' with ⟨i', rfl, e'⟩ | ⟨i', s', rfl, e', q4'⟩ <;> cases e'
      · rfl
      · have := (List.getElem?_inj (lt_of_some q4) hnd).1 (q4.trans q4'.symm); rw [this]
    · obtain ⟨i, hi⟩ := List.getElem?_of_mem hb
      obtain ⟨s, b0, _, h2, rfl, _⟩ := hN i b hi
      rw [Blk.ren_own]; exact hr.lo s b0 h2
    · obtain ⟨s, b0, _, h2, rfl, h4⟩ := hN i b h
      rcases hr.ow _ b0 p h2 (hr.lo s b0 h2) (by rw [← h4]; exact hj) with h | h
      · exact .inr h
      · exact .inl h
    · obtain ⟨b0, h4, rfl⟩ := hO i b' (by rw [h3]; rfl)
      rw [Blk.ren_own]; exact hoo i b b0 h1 h2 h4
theorem fun_sound (hS : CallSound P call) (hm : P.follows .mixedOrders = true) {f : Nat} {F : IFun} (hc : compF P f F = some F) : Sound1 P f (runFn call F) := by
  intro args out v os news hrun
  unfold compF at hc
  split at hc
  rotate_left
  · cases hc
  rename_i fn hfn
  split at hc
  rotate_left
  · cases hc
  rename_i c hbody
  split at hc
  rotate_left
  · cases hc
  rename_i hname
  split at hc
  rotate_left
  · cases hc
  rename_i b r hb hr''
  simp only [Option.some.injEq] at hc
  refine ⟨⟨fn, hfn, by rw [hbody]; rfl, hname.1⟩, ?_⟩
  intro j w vals hv hjl hka hkb hH
  unfold runFn at hrun
  split at hrun
  rotate_left
  · cases hrun
  rename_i hlen
  have hnt : F.nt = fn.ntmps := by rw [← hc]
  have hFb : F.body = b := by rw [← hc]
  have hFr : F.res = r := by rw [← hc]
  have hvl := hv.length
  let W : Wr := ⟨ownB j out, fun i => j (.o i), fun i => match out[i]? with | some b => b.own | none => false⟩
  have hget : ∀ k, St.get ⟨args0 0 args, [], out.map some, []⟩ k = outG out k := by
    intro k
    cases k with
    | l s => rfl
    | o i =>
      simp only [St.get, outG, List.getElem?_map]
      cases out[i]? <;> rfl
  have hgetf : St.get ⟨args0 0 args, [], out.map some, []⟩ = outG out := funext hget
  have hok : ∀ {k}, outKey k → okK [] k := by rintro _ ⟨i, rfl⟩ s e; cases e
  have hev : ∀ t, St.ev ⟨args0 0 args, [], out.map some, []⟩ (.t t) = (args[t]?).getD (.c .junk) := fun t => by
    simp [St.ev, args0_lk]
  have hr0 : Rel fn.ntmps w W j ⟨args0 0 args, [], out.map some, []⟩ { tmps := vals.toArray ++ Array.replicate (fn.ntmps - vals.toArray.size) undef, defers := [] } w := by
    refine ⟨?_, rfl, fun t => ?_, by rw [hgetf]; exact hH, RelW.refl _ _, fun k b p hk ho hj => ?_, fun t k hk => ?_, fun k b hk k' hk' => ?_, fun i => rfl, fun i b hk ho => ?_, fun s b hk => ?_⟩
    · simp; omega
    · rw [hev]
      cases ha : args[t]? with
      | none => trivial
      | some x =>
        obtain ⟨u, h1, h2⟩ := hv.get ha
        have : (vals.toArray ++ Array.replicate (fn.ntmps - vals.toArray.size) undef).getD t undef = u := by
          rw [Array.getD_eq_getD_getElem?, Array.getElem?_append_left (by simpa using lt_of_some h1)]
          simp [h1]
        rw [this]; exact h2.up
    · rw [hget] at hk
      cases k with
      | l s => simp [outG] at hk
      | o i => exact .inl ⟨i, b, p, hk, ho, hj, rfl⟩
    · rw [hev] at hk
      cases ha : args[t]? with
      | none => rw [ha] at hk; simp [V.keys, V.keys1, Cell.keys] at hk
      | some x =>
        rw [ha] at hk
        refine hok (hka x (List.mem_of_getElem? ha) k ?_)
        obtain ⟨u, _, h2⟩ := hv.get ha
        cases x with
        | tup l => exact h2.elim
        | c y => exact hk
        | agg y => exact hk
    · rw [hget] at hk
      cases k with
      | l s => simp [outG] at hk
      | o i => exact hok (hkb b (List.mem_of_getElem? hk) k' hk')
    · rw [hget] at hk
      simp only [outG] at hk
      simpa [W, hk] using ho
    · simp [St.get, lk] at hk
  refine calls_of_wp hfn hbody ?_
  split at hrun
  · cases hrun
  · rename_i x σ hne hcode
    split at hrun
    · rename_i vs hvs
      rw [hFb] at hcode
      refine code_sound hS hm hb hcode hr0 fun j' a' w' hr' => ?_
      rw [hFr] at hvs
      have hfin : bodyPost P fn (fun e w' => ∃ rv j', e = .returned rv ∧ (∀ i, j' (.o i) = j (.o i)) ∧ RelV j' v rv ∧ RelH j' (resG os news) w' ∧ RelW w (ownB j out) w' ∧
        (∀ b ∈ news, b.own = true) ∧ (∀ (i : Nat) (b : Blk) (p : Place), news[i]? = some b → j' (.l i) = some p → w.heap.size ≤ p.block ∨ ownB j out p.block) ∧
        (∀ (i : Nat) (b b' : Blk), out[i]? = some b → b.own = true → os[i]? = some (some b') → b'.own = true)) .normal a' w' := by
        refine ⟨hr'.df, ?_⟩
        obtain ⟨u, h1, h2⟩ := results_done hr' hr'' hvs
        obtain ⟨j2, h3⟩ := export_done hr' hrun h2
        exact ⟨u, h1, u, j2, rfl, h3⟩
      cases x with
      | normal => exact hfin
      | ret => exact hfin
      | exit i => exact absurd rfl (hne i)
    · cases hrun
  · cases hrun
theorem evFun_sound (hm : P.follows .mixedOrders = true) {T : Nat → Option Ent} (hT : ∀ f F, T f = some (.fn F) → compF P f F = some F) (hp : ∀ f p, T f = some (.prim p) → ∀ call, CallSound P call → Sound1 P f (p call)) : ∀ D, CallSound P (evFun T D) := by
  intro D
  induction D with
  | zero => intro f args out v os news h; simp [evFun] at h
  | succ D ih =>
    intro f
    cases hf : T f with
    | none => intro args out v os news h; simp [evFun, hf] at h
    | some e =>
      cases e with
      | prim p =>
        have : evFun T (D + 1) f = p (evFun T D) := by funext args out; simp [evFun, hf]
        rw [this]; exact hp f p hf _ ih
      | fn F =>
        have : evFun T (D + 1) f = runFn (evFun T D) F := by funext args out; exact ev_fn hf D args out
        rw [this]; exact fun_sound ih hm (hT f F hf)
end Go.Ab

namespace Go.Ab
open Go.RowKit

/-- A kind of cell that an argument may hold. -/
inductive CK where
  | int (k : IntKind)
  | bool
  | slc (t e sz : Nat) (els : List CK)
def CK.pl : CK → Bool
  | .slc .. => false
  | _ => true
def allPl : List CK → Bool
  | [] => true
  | k :: r => k.pl && allPl r
def flatFs (g : Nat → Option (List CK)) (P : Program) : List Field → Nat → Option (List CK)
  | [], _ => some []
  | f :: r, o => if f.offset = o then match g f.type with
      | some l => if l.length = P.cellsOf f.type then (flatFs g P r (o + l.length)).map (l ++ ·) else none
      | none => none
    else none
def flat (P : Program) : Nat → Nat → Option (List CK)
  | 0, _ => none
  | n + 1, t => match P.underlying t with
    | some (.int k) => some [.int k]
    | some .bool => some [.bool]
    | some (.slice e) => match flat P n e with
      | some l => if l.length = P.cellsOf e ∧ allPl l = true ∧ 0 < P.bytesOf e then some [.slc t e l.length l] else none
      | none => none
    | some (.struct fs) => match flatFs (flat P n) P fs.toList 0 with
      | some l => if l.length = P.cellsOf t then some l else none
      | none => none
    | _ => none

def inKind : CK → Cell → Prop
  | .int k, .int k' n => k' = k ∧ inK k n
  | .bool, .bool _ => True
  | _, _ => False
/-- A block that the caller handed in. -/
def wfBlk (e sz : Nat) (els : List CK) (n : Nat) (b : Blk) : Prop := ∃ rows : List (List Cell), b = ⟨e, sz, false, true, rows⟩ ∧ rows.length = n ∧ n ≤ 140737488351232 ∧ ∀ r ∈ rows, All2 inKind els r
def wfCells : List CK → List Cell → Nat → List Blk → Prop
  | [], [], _, [] => True
  | .slc _ e sz els :: ks, .slc (.o j) z i0 n :: cs, i, b :: bs => (j = i ∧ z = sz ∧ i0 = 0 ∧ wfBlk e sz els n b) ∧ wfCells ks cs (i + 1) bs
  | k :: ks, c :: cs, i, bs => inKind k c ∧ wfCells ks cs i bs
  | _, _, _, _ => False
def Rep (w : World) : List CK → List Value → Nat → List Cell → List Blk → List (Option Place) → Prop
  | [], [], _, [], [], [] => True
  | .slc _ e sz els :: ks, v :: vs, i, c :: cs, b :: bs, p :: ps =>
    (∃ n, c = .slc (.o i) sz 0 n ∧ wfBlk e sz els n b ∧ ((p = none ∧ n = 0 ∧ v = .slice none 0 0) ∨ ∃ pl cap, p = some pl ∧ pl.sz = sz ∧ pl.own = false ∧ v = .slice (some ⟨pl.block, pl.base, none⟩) n cap ∧ n ≤ cap ∧ ∀ j, RelB j b pl w)) ∧ Rep w ks vs (i + 1) cs bs ps
  | k :: ks, v :: vs, i, c :: cs, bs, ps => (inKind k c ∧ ∀ j, RelC1 j c v) ∧ Rep w ks vs i cs bs ps
  | _, _, _, _, _, _ => False
variable {H : Type} {enc : TypeId × Value → H} {P : Program} {w : World}

theorem Rep.append : ∀ {ks : List CK} {vs : List Value} {i : Nat} {cs : List Cell} {bs : List Blk} {ps : List (Option Place)} {ks' : List CK} {vs' : List Value} {cs' : List Cell} {bs' : List Blk} {ps' : List (Option Place)},
    Rep w ks vs i cs bs ps → Rep w ks' vs' (i + bs.length) cs' bs' ps' → Rep w (ks ++ ks') (vs ++ vs') i (cs ++ cs') (bs ++ bs') (ps ++ ps')
  | [], vs, i, cs, bs, ps, ks', vs', cs', bs', ps', h, h' => by
    cases vs <;> cases cs <;> cases bs <;> cases ps <;> simp_all [Rep]
  | k :: ks, vs, i, cs, bs, ps, ks', vs', cs', bs', ps', h, h' => by
    cases k with
    | slc t e sz els =>
      cases vs with
      | nil => simp [Rep] at h
      | cons v vs =>
        cases cs with
        | nil => simp [Rep] at h
        | cons c cs =>
          cases bs with
          | nil => simp [Rep, inKind] at h
          | cons b bs =>
            cases ps with
            | nil => simp [Rep, inKind] at h
            | cons p ps =>
              simp only [Rep, List.cons_append] at h ⊢
              refine ⟨h.1, Rep.append h.2 ?_⟩
              rw [show i + 1 + bs.length = i + (b :: bs).length by simp; omega]; exact h'
    | int kk =>
      cases vs with
      | nil => simp [Rep] at h
      | cons v vs =>
        cases cs with
        | nil => simp [Rep] at h
        | cons c cs =>
          simp only [Rep, List.cons_append] at h ⊢
          exact ⟨h.1, Rep.append h.2 h'⟩
    | bool =>
      cases vs with
      | nil => simp [Rep] at h
      | cons v vs =>
        cases cs with
        | nil => simp [Rep] at h
        | cons c cs =>
          simp only [Rep, List.cons_append] at h ⊢
          exact ⟨h.1, Rep.append h.2 h'⟩
theorem Rep.lens : ∀ {ks : List CK} {vs : List Value} {i : Nat} {cs : List Cell} {bs : List Blk} {ps : List (Option Place)}, Rep w ks vs i cs bs ps → ps.length = bs.length ∧ cs.length = vs.length
  | [], vs, i, cs, bs, ps, h => by
    cases vs <;> cases cs <;> cases bs <;> cases ps <;> simp_all [Rep]
  | k :: ks, vs, i, cs, bs, ps, h => by
    cases k with
    | slc t e sz els =>
      cases vs with
      | nil => simp [Rep] at h
      | cons v vs =>
        cases cs with
        | nil => simp [Rep] at h
        | cons c cs =>
          cases bs with
          | nil => simp [Rep, inKind] at h
          | cons b bs =>
            cases ps with
            | nil => simp [Rep, inKind] at h
            | cons p ps =>
              simp only [Rep] at h
              have := Rep.lens h.2
              simp [this]
    | int kk =>
      cases vs with
      | nil => simp [Rep] at h
      | cons v vs =>
        cases cs with
        | nil => simp [Rep] at h
        | cons c cs => simp only [Rep] at h; have := Rep.lens h.2; simp [this]
    | bool =>
      cases vs with
      | nil => simp [Rep] at h
      | cons v vs =>
        cases cs with
        | nil => simp [Rep] at h
        | cons c cs => simp only [Rep] at h; have := Rep.lens h.2; simp [this]
/-- Plain cells alone: no blocks. -/
theorem Rep.plain : ∀ {ks : List CK} {vs : List Value} {i : Nat} {cs : List Cell} {bs : List Blk} {ps : List (Option Place)}, Rep w ks vs i cs bs ps → allPl ks = true → All2 inKind ks cs ∧ allPlain cs = true ∧ ∀ j, All2 (RelC1 j) cs vs
  | [], vs, i, cs, bs, ps, h, hp => by
    cases vs <;> cases cs <;> cases bs <;> cases ps <;> simp_all [Rep, All2, allPlain]
  | k :: ks, vs, i, cs, bs, ps, h, hp => by
    simp only [allPl, Bool.and_eq_true] at hp
    cases k with
    | slc t e sz els => simp [CK.pl] at hp
    | int kk =>
      cases vs with
      | nil => simp [Rep] at h
      | cons v vs =>
        cases cs with
        | nil => simp [Rep] at h
        | cons c cs =>
          simp only [Rep] at h
          obtain ⟨q1, q2, q3⟩ := Rep.plain h.2 hp.2
          refine ⟨⟨h.1.1, q1⟩, ?_, fun j => ⟨h.1.2 j, q3 j⟩⟩
          have := h.1.1
          cases c <;> simp_all [inKind, allPlain, Cell.plain]
    | bool =>
      cases vs with
      | nil => simp [Rep] at h
      | cons v vs =>
        cases cs with
        | nil => simp [Rep] at h
        | cons c cs =>
          simp only [Rep] at h
          obtain ⟨q1, q2, q3⟩ := Rep.plain h.2 hp.2
          refine ⟨⟨h.1.1, q1⟩, ?_, fun j => ⟨h.1.2 j, q3 j⟩⟩
          have := h.1.1
          cases c <;> simp_all [inKind, allPlain, Cell.plain]
/-- What is known of a slice's address. -/
def okAt (P : Program) (w : World) (base : Nat) : CK → Value → Prop
  | .slc t _ _ _, v => Cell.okWide P w .any base t v
  | _, _ => True
theorem okAt_plain {base : Nat} : ∀ {ks : List CK} {vs : List Value}, allPl ks = true → ks.length = vs.length → All2 (okAt P w base) ks vs
  | [], [], _, _ => trivial
  | k :: ks, v :: vs, h, hl => by
    simp only [allPl, Bool.and_eq_true] at h
    refine ⟨?_, okAt_plain h.2 (by simpa using hl)⟩
    cases k <;> simp_all [CK.pl, okAt]
theorem All2.splitL {α β : Type} {R : α → β → Prop} : ∀ {l l' : List α} {m : List β}, All2 R (l ++ l') m → All2 R l (m.take l.length) ∧ All2 R l' (m.drop l.length)
  | [], l', m, h => by simpa [All2] using h
  | a :: l, l', m, h => by
    cases m with
    | nil => exact h.elim
    | cons b m => exact ⟨⟨h.1, (All2.splitL h.2).1⟩, (All2.splitL h.2).2⟩
abbrev trd (enc : TypeId × Value → H) (P : Program) (w : World) (fuel t : Nat) (cs : List Value) : Option (DataW H × List MemPlace) := DataW.trod enc P w 0 (fun _ => true) true fuel t cs
/-- What a type's reading comes to. -/
def Opens (enc : TypeId × Value → H) (P : Program) (w : World) (base n : Nat) : Prop :=
  ∀ t ks, flat P n t = some ks → ∀ fuel cs x, trd enc P w fuel t cs = some x → cs.length = ks.length ∧
    ((∀ m ∈ x.1.weights P t, m ≤ reachBytes) → All2 (okAt P w base) ks cs → ∀ i, ∃ as bs ps, Rep w ks cs i as bs ps)
theorem fs_rep {base n m : Nat} (hO : Opens enc P w base n) : ∀ (fs : List Field) (o : Nat) (ks : List CK), flatFs (flat P n) P fs o = some ks → ∀ (cs : List Value) (xs : List (DataW H × List MemPlace)), xs.length = fs.length →
    cs.length = o + ks.length → (∀ (i : Nat) (f : Field), fs[i]? = some f → trd enc P w m f.type ((cs.drop f.offset).take (P.cellsOf f.type)) = xs[i]?) → (∀ k ∈ DataW.weightsEach P (fs.map (·.type)) (xs.map (·.1)), k ≤ reachBytes) →
    All2 (okAt P w base) ks (cs.drop o) → ∀ i, ∃ as bs ps, Rep w ks (cs.drop o) i as bs ps
  | [], o, ks, h, cs, xs, hl, hc, ht, hw, hk, i => by
    simp [flatFs] at h; subst h
    have : cs.drop o = [] := List.drop_eq_nil_of_le (by simp at hc; omega)
    rw [this]; exact ⟨[], [], [], trivial⟩
  | f :: fs, o, ks, h, cs, xs, hl, hc, ht, hw, hk, i => by
    simp only [flatFs] at h
    split at h
    rotate_left
    · cases h
    rename_i ho
    split at h
    rotate_left
    · cases h
    rename_i l hfl
    split at h
    rotate_left
    · cases h
    rename_i hll
    simp only [Option.map_eq_some_iff] at h
    obtain ⟨ks2, h2, rfl⟩ := h
    cases xs with
    | nil => simp at hl
    | cons x xs =>
      have h0 := ht 0 f rfl
      simp only [List.getElem?_cons_zero] at h0
      rw [ho, ← hll] at h0
      have hks := All2.splitL hk
      simp only [List.map_cons, DataW.weightsEach, List.mem_append] at hw
      obtain ⟨_, hq⟩ := hO f.type l hfl m _ x h0
      obtain ⟨as1, bs1, ps1, r1⟩ := hq (fun k hk => hw k (.inl hk)) hks.1 i
      have hd : (cs.drop o).drop l.length = cs.drop (o + l.length) := by rw [List.drop_drop]
      have hk2 := hks.2
      rw [hd] at hk2
      obtain ⟨as2, bs2, ps2, r2⟩ := fs_rep hO fs (o + l.length) ks2 h2 cs xs (by simpa using hl) (by simp at hc; omega) (fun j g hj => by have := ht (j + 1) g (by simpa using hj); simpa using this) (fun k hk => hw k (.inr hk)) hk2 (i + bs1.length)
      refine ⟨as1 ++ as2, bs1 ++ bs2, ps1 ++ ps2, ?_⟩
      have e : cs.drop o = (cs.drop o).take l.length ++ cs.drop (o + l.length) := by rw [← hd, List.take_append_drop]
      rw [e]
      exact Rep.append r1 r2
theorem slc_rows {e sz : Nat} {els : List CK} {base n m : Nat} (hO : Opens enc P w base n) (hfl : flat P n e = some els) (hp : allPl els = true) (hsz : sz = P.cellsOf e) {a : Addr} : ∀ (xs : List (DataW H × List MemPlace)) (o : Nat),
    (∀ i, i < xs.length → (w.cells? 0 (a.add ((o + i) * sz)) sz).bind (trd enc P w m e) = xs[i]?) → (∀ k ∈ DataW.weightsAll P e (xs.map (·.1)), k ≤ reachBytes) →
    ∃ rows : List (List Cell), rows.length = xs.length ∧ ∀ i r, rows[i]? = some r → All2 inKind els r ∧ allPlain r = true ∧ ∃ vs, w.cells? 0 (a.add ((o + i) * sz)) sz = some vs ∧ ∀ j, All2 (RelC1 j) r vs
  | [], o, h, hw => ⟨[], rfl, fun i r h => by simp at h⟩
  | x :: xs, o, h, hw => by
    simp only [List.map_cons, DataW.weightsAll, List.mem_append] at hw
    obtain ⟨rows, h1, h2⟩ := slc_rows hO hfl hp hsz xs (o + 1) (fun i hi => by have := h (i + 1) (by simpa using hi); rw [show o + 1 + i = o + (i + 1) by omega]; simpa using this) (fun k hk => hw k (.inr hk))
    have h0 := h 0 (by simp)
    simp only [List.getElem?_cons_zero, Nat.add_zero, Option.bind_eq_some_iff] at h0
    obtain ⟨vs, h3, h4⟩ := h0
    obtain ⟨q1, q2⟩ := hO e els hfl m vs x h4
    obtain ⟨as, bs, ps, r⟩ := q2 (fun k hk => hw k (.inl hk)) (okAt_plain hp q1.symm) 0
    obtain ⟨r1, r2, r3⟩ := Rep.plain r hp
    refine ⟨as :: rows, by simp [h1], fun i r hi => ?_⟩
    cases i with
    | zero => simp at hi; subst hi; exact ⟨r1, r2, vs, by simpa using h3, r3⟩
    | succ i =>
      have := h2 i r (by simpa using hi)
      rwa [show o + 1 + i = o + (i + 1) by omega] at this
theorem addr_add {a : Addr} (h : a.spot = none) (n : Nat) : a.add n = ⟨a.block, a.off + n, none⟩ := by
  unfold Addr.add
  split
  · rename_i h0; subst h0; cases a; simp at h; simp [h]
  · rfl
theorem addr_spot {a : Addr} (h : a.spot = none) {n : Nat} : (a.add n).spot = none := by rw [addr_add h]
theorem opens (base : Nat) : ∀ n, Opens enc P w base n := by
  intro n
  induction n with
  | zero => intro t ks h; simp [flat] at h
  | succ n ih =>
    intro t ks h fuel cs x hx
    simp only [flat] at h
    split at h
    · rename_i k hu
      simp at h; subst h
      obtain ⟨z, rfl, rfl, hwf⟩ := DataW.trod_int hu hx
      refine ⟨rfl, fun _ _ i => ⟨[.int k z], [], [], ?_⟩⟩
      have hk : inK k z := by
        simp [Lit.wf] at hwf
        exact hwf
      exact ⟨⟨⟨rfl, hk⟩, fun j => ⟨⟨rfl, hk⟩, rfl⟩⟩, trivial⟩
    · rename_i hu
      simp at h; subst h
      cases fuel with
      | zero => simp [trd, DataW.trod] at hx
      | succ m =>
        have hx' := hx
        unfold trd DataW.trod at hx'
        rw [hu] at hx'
        split at hx' <;> simp_all
        intro _ _ i
        exact ⟨[.bool _], [], [], ⟨trivial, fun j => ⟨rfl, rfl⟩⟩, trivial⟩
    · rename_i e hu
      split at h
      rotate_left
      · cases h
      rename_i l hfl
      split at h
      rotate_left
      · cases h
      rename_i hl
      simp at h; subst h
      rcases DataW.trod_slice hu hx with ⟨rfl, rfl⟩ | ⟨a, len, cap, elems, rest, m, rfl, rfl, rfl, _, hle, hcap, hel, hrd, hrest, _⟩
      · refine ⟨rfl, fun _ _ i => ⟨[.slc (.o i) l.length 0 0], [⟨e, l.length, false, true, []⟩], [none], ?_⟩⟩
        exact ⟨⟨0, rfl, ⟨[], rfl, rfl, by omega, by simp⟩, .inl ⟨rfl, rfl, rfl⟩⟩, trivial⟩
      · refine ⟨rfl, fun hw hk i => ?_⟩
        have hr := hrest rfl
        have hkk : Cell.okWide P w .any base t (.slice (some a) len cap) := hk.1
        simp only [Cell.okWide, hu, Cell.ok] at hkk
        obtain ⟨_, _, _, hspot, row, cells, hshape, _⟩ := hkk
        have hlt : a.block < w.heap.size := by
          simp only [World.shape?] at hshape
          split at hshape
          · rename_i h'; exact (Array.getElem?_eq_some_iff.1 h').1
          · rename_i h'; cases hshape
        have hw' : (elems.length + rest.length) * P.bytesOf e ≤ reachBytes ∧ ∀ k ∈ DataW.weightsAll P e (elems.map (·.1)), k ≤ reachBytes := by
          simp only [DataW.weights, hu, List.mem_cons, List.mem_append, List.length_map] at hw
          exact ⟨hw _ (.inl rfl), fun k hk => hw k (.inr (.inl hk))⟩
        have hlen : len ≤ 140737488351232 := by
          have h1 : reachBytes = 140737488351232 := rfl
          have h2 : (elems.length + rest.length) * 1 ≤ (elems.length + rest.length) * P.bytesOf e := Nat.mul_le_mul_left _ hl.2.2
          omega
        have hsz := hl.1
        obtain ⟨rows, r1, r2⟩ := slc_rows ih hfl hl.2.1 hsz (a := a) elems 0 (fun i hi => by rw [hsz]; simpa using hrd i (by omega)) hw'.2
        have ha : a = ⟨a.block, a.off, none⟩ := by cases a; simp at hspot; simp [hspot]
        refine ⟨[.slc (.o i) l.length 0 len], [⟨e, l.length, false, true, rows⟩], [some ⟨a.block, a.off, l.length, 0, false⟩], ⟨⟨len, rfl, ⟨rows, rfl, by omega, hlen, fun r hr => ?_⟩, .inr ⟨_, cap, rfl, rfl, rfl, by rw [← ha], hle, fun j => ?_⟩⟩, trivial⟩⟩
        · obtain ⟨i, hi⟩ := List.getElem?_of_mem hr
          exact (r2 i r hi).1
        · refine ⟨hlt, rfl, rfl, fun r hr => ?_, fun _ r hr => ?_, fun i r hi o c hc => ?_, fun h => by simp at h⟩
          · obtain ⟨i, hi⟩ := List.getElem?_of_mem hr
            exact (All2.length (r2 i r hi).1).symm
          · obtain ⟨i, hi⟩ := List.getElem?_of_mem hr
            exact (r2 i r hi).2.1
          · obtain ⟨_, _, vs, h3, h4⟩ := r2 i r hi
            obtain ⟨v, h5, h6⟩ := (h4 j).get hc
            refine ⟨v, ?_, h6⟩
            simp only [World.cells?, Nat.zero_le, if_true] at h3
            have hol : o < l.length := by
              have q1 := (h4 j).length
              have q2 := All2.length (r2 i r hi).1
              have q3 := (List.getElem?_eq_some_iff.1 hc).1
              omega
            have h7 := mapM_some_get h3 o o (by simp [hol])
            rw [h5] at h7
            rw [← h7]
            rw [addr_add (addr_spot hspot), addr_add hspot]
            simp [addrOf]
    · rename_i fs hu
      split at h
      rotate_left
      · cases h
      rename_i l hfl
      split at h
      rotate_left
      · cases h
      rename_i hl
      simp at h; subst h
      obtain ⟨xs, m, rfl, rfl, hc, hxl, hf⟩ := DataW.trod_struct hu hx
      refine ⟨by omega, fun hw hk i => ?_⟩
      simp only [DataW.weights, hu] at hw
      have := fs_rep ih fs.toList 0 l hfl cs xs (by simpa using hxl) (by omega) (fun i f hi => hf i f (by simpa using hi)) hw (by simpa using hk) i
      simpa using this
    · cases h
theorem Rep.facts {j : J} : ∀ {ks : List CK} {vs : List Value} {i : Nat} {cs : List Cell} {bs : List Blk} {ps : List (Option Place)}, Rep w ks vs i cs bs ps → (∀ (m : Nat) (p : Option Place), ps[m]? = some p → j (.o (i + m)) = p) →
    All2 (RelC1 j) cs vs ∧ (∀ c ∈ cs, ∀ k ∈ c.keys, outKey k) ∧ wfCells ks cs i bs ∧ ∀ (m : Nat) (b : Blk), bs[m]? = some b → b.own = false ∧ b.pl = true ∧ ∃ p, ps[m]? = some p ∧ (p = none → b.els = []) ∧ ∀ pl, p = some pl → RelB j b pl w
  | [], vs, i, cs, bs, ps, h, hj => by
    cases vs <;> cases cs <;> cases bs <;> cases ps <;> simp_all [Rep, All2, wfCells]
  | k :: ks, vs, i, cs, bs, ps, h, hj => by
    cases k with
    | slc t e sz els =>
      cases vs with
      | nil => simp [Rep] at h
      | cons v vs =>
        cases cs with
        | nil => simp [Rep] at h
        | cons c cs =>
          cases bs with
          | nil => simp [Rep, inKind] at h
          | cons b bs =>
            cases ps with
            | nil => simp [Rep, inKind] at h
            | cons p ps =>
              simp only [Rep] at h
              obtain ⟨⟨n, rfl, hb, hp⟩, h2⟩ := h
              obtain ⟨q1, q2, q3, q4⟩ := Rep.facts (j := j) h2 (fun m p hm => by have := hj (m + 1) p (by simpa using hm); rwa [show i + 1 + m = i + (m + 1) by omega])
              have hj0 := hj 0 p rfl
              simp only [Nat.add_zero] at hj0
              have hb' := hb
              obtain ⟨rows, hbe, hrl, hn, _⟩ := hb'
              refine ⟨⟨⟨?_, ?_⟩, q1⟩, ?_, ⟨⟨rfl, rfl, rfl, hb⟩, q3⟩, ?_⟩
              · refine ⟨by unfold maxS; omega, ?_⟩
                rcases hp with ⟨rfl, rfl, rfl⟩ | ⟨pl, cap, rfl, h3, h4, rfl, h5, h6⟩
                · exact .inr ⟨hj0, rfl, rfl⟩
                · exact .inl ⟨pl, cap, _, hj0, h3, rfl, h5, fun _ => by simp [addrOf], fun _ ho => by rw [h4] at ho; cases ho⟩
              · rcases hp with ⟨rfl, rfl, rfl⟩ | ⟨pl, cap, rfl, h3, h4, rfl, h5, h6⟩ <;> rfl
              · intro c hc k hk
                rcases List.mem_cons.1 hc with rfl | hc
                · simp [Cell.keys] at hk; exact ⟨i, hk⟩
                · exact q2 c hc k hk
              · intro m b' hm
                cases m with
                | zero =>
                  simp at hm; subst hm
                  refine ⟨by rw [hbe], by rw [hbe], p, rfl, fun h => ?_, fun pl h => ?_⟩
                  · rcases hp with ⟨rfl, rfl, rfl⟩ | ⟨pl, cap, rfl, _⟩
                    · rw [hbe]; simpa using hrl
                    · cases h
                  · rcases hp with ⟨rfl, rfl, rfl⟩ | ⟨pl', cap, rfl, h3, h4, rfl, h5, h6⟩
                    · cases h
                    · cases h; exact h6 j
                | succ m => exact q4 m b' (by simpa using hm)
    | int kk =>
      cases vs with
      | nil => simp [Rep] at h
      | cons v vs =>
        cases cs with
        | nil => simp [Rep] at h
        | cons c cs =>
          simp only [Rep] at h
          obtain ⟨q1, q2, q3, q4⟩ := Rep.facts (j := j) h.2 hj
          refine ⟨⟨h.1.2 j, q1⟩, ?_, ⟨h.1.1, q3⟩, q4⟩
          intro c' hc k hk
          rcases List.mem_cons.1 hc with rfl | hc
          · have := h.1.1; cases c' <;> simp_all [inKind, Cell.keys]
          · exact q2 c' hc k hk
    | bool =>
      cases vs with
      | nil => simp [Rep] at h
      | cons v vs =>
        cases cs with
        | nil => simp [Rep] at h
        | cons c cs =>
          simp only [Rep] at h
          obtain ⟨q1, q2, q3, q4⟩ := Rep.facts (j := j) h.2 hj
          refine ⟨⟨h.1.2 j, q1⟩, ?_, ⟨h.1.1, q3⟩, q4⟩
          intro c' hc k hk
          rcases List.mem_cons.1 hc with rfl | hc
          · have := h.1.1; cases c' <;> simp_all [inKind, Cell.keys]
          · exact q2 c' hc k hk

/-! ### Arguments -/
def tysOk : List CK → List Nat → Bool
  | [], [] => true
  | .slc t _ _ _ :: ks, u :: us => (t == u) && tysOk ks us
  | _ :: ks, _ :: us => tysOk ks us
  | _, _ => false
abbrev Par := Bool × List CK
def parOf (P : Program) (t : Nat) : Option Par :=
  match P.underlying t with
  | some (.struct _) => match flat P 8 t, P.cellTypes P.depth t with
    | some ks, some ts => if tysOk ks ts = true then some (true, ks) else none
    | _, _ => none
  | some (.int _) | some .bool | some (.slice _) => match flat P 8 t with
    | some [k] => some (false, [k])
    | _ => none
  | _ => none
def parsOf (P : Program) : List Nat → Option (List Par)
  | [] => some []
  | t :: r => match parOf P t, parsOf P r with
    | some p, some ps => some (p :: ps)
    | _, _ => none
def argV : Bool → List Cell → V
  | true, cs => .agg cs
  | false, [c] => .c c
  | false, _ => .c .junk
def wfArgs : List Par → List V → Nat → List Blk → Prop
  | [], [], _, bs => bs = []
  | (g, ks) :: r, x :: xs, i, bs => ∃ cs bs1 bs2, x = argV g cs ∧ bs = bs1 ++ bs2 ∧ wfCells ks cs i bs1 ∧ wfArgs r xs (i + bs1.length) bs2
  | _, _, _, _ => False
theorem tysOk_at {base : Nat} : ∀ {ks : List CK} {ts : List Nat} {vs : List Value}, tysOk ks ts = true → vs.length = ts.length → (∀ (i : Nat) (v : Value), vs[i]? = some v → ∃ u, ts[i]? = some u ∧ Cell.okWide P w .any base u v) → All2 (okAt P w base) ks vs
  | [], [], [], _, _, _ => trivial
  | [], [], v :: vs, _, hl, _ => by simp at hl
  | [], t :: ts, vs, h, _, _ => by simp [tysOk] at h
  | k :: ks, [], vs, h, _, _ => by cases k <;> simp [tysOk] at h
  | k :: ks, t :: ts, [], _, hl, _ => by simp at hl
  | k :: ks, t :: ts, v :: vs, h, hl, hv => by
    obtain ⟨u, hu, h0⟩ := hv 0 v rfl
    simp at hu; subst hu
    have hr := fun i v' (hi : vs[i]? = some v') => hv (i + 1) v' (by simpa using hi)
    cases k with
    | slc a e sz els =>
      simp only [tysOk, Bool.and_eq_true, beq_iff_eq] at h
      exact ⟨by rw [← h.1] at h0; exact h0, tysOk_at h.2 (by simpa using hl) (fun i v' hi => by simpa using hr i v' hi)⟩
    | int kk => exact ⟨trivial, tysOk_at h (by simpa using hl) (fun i v' hi => by simpa using hr i v' hi)⟩
    | bool => exact ⟨trivial, tysOk_at h (by simpa using hl) (fun i v' hi => by simpa using hr i v' hi)⟩
theorem par_rep {base : Nat} {t : Nat} {g : Bool} {ks : List CK} (hp : parOf P t = some (g, ks)) {v : Value} {fuel : Nat} {x : DataW H × List MemPlace} (hv : Value.okWide P w .any base t v) (ht : trd enc P w fuel t v.cells.toList = some x)
    (hw : ∀ m ∈ x.1.weights P t, m ≤ reachBytes) (i : Nat) : (∃ as bs ps, Rep w ks v.cells.toList i as bs ps) ∧ (g = true → v = .agg v.cells) ∧ (g = false → v.cells = #[v] ∧ ks.length = 1) := by
  unfold parOf at hp
  split at hp
  · rename_i fs hu
    split at hp
    rotate_left
    · cases hp
    rename_i ks' ts hf hts
    split at hp
    rotate_left
    · cases hp
    rename_i hty
    simp at hp
    obtain ⟨rfl, rfl⟩ := hp
    simp only [Value.okWide, hu] at hv
    obtain ⟨cs, rfl, hsz, ts', hts', ⟨n, hn⟩, hcell⟩ := hv
    rw [hts] at hts'
    simp at hts'; subst hts'
    simp only [Value.cells] at *
    obtain ⟨hl, hq⟩ := opens base 8 t ks' hf fuel _ x ht
    have hkl : ks'.length = ts.length := by
      clear hf hq hl hcell hn hts hw ht
      induction ks' generalizing ts with
      | nil => cases ts <;> simp_all [tysOk]
      | cons k ks ih =>
        cases ts with
        | nil => cases k <;> simp [tysOk] at hty
        | cons u us =>
          have : tysOk ks us = true := by cases k <;> simp_all [tysOk]
          simp [ih us this]
    have hcl : cs.toList.length = ts.length := by omega
    refine ⟨hq hw (tysOk_at hty hcl fun i' v' hi => ?_) i, by simp, by simp⟩
    obtain ⟨u, h1, h2⟩ := hcell i' v' (by simpa using hi)
    have hlt : i' < ts.length := by have := (List.getElem?_eq_some_iff.1 hi).1; omega
    rw [Nat.mod_eq_of_lt hlt] at h1
    exact ⟨u, h1, h2⟩
  all_goals try (rename_i hu; split at hp <;> simp at hp; rename_i k hf; obtain ⟨rfl, rfl⟩ := hp)
  · obtain ⟨hl, hq⟩ := opens base 8 t [k] hf fuel _ x ht
    simp only [Value.okWide, hu, Cell.okWide] at hv
    obtain ⟨n, rfl⟩ : ∃ n, v = .int ‹IntKind› n := by cases v <;> simp_all [Cell.ok]
    have hk : k = .int ‹IntKind› := by simp [flat, hu] at hf; exact hf.symm
    subst hk
    exact ⟨hq hw ⟨trivial, trivial⟩ i, by simp, fun _ => ⟨rfl, rfl⟩⟩
  · obtain ⟨hl, hq⟩ := opens base 8 t [k] hf fuel _ x ht
    simp only [Value.okWide, hu, Cell.okWide] at hv
    obtain ⟨n, rfl⟩ : ∃ n, v = .bool n := by cases v <;> simp_all [Cell.ok]
    have hk : k = .bool := by simp [flat, hu] at hf; exact hf.symm
    subst hk
    exact ⟨hq hw ⟨trivial, trivial⟩ i, by simp, fun _ => ⟨rfl, rfl⟩⟩
  · obtain ⟨hl, hq⟩ := opens base 8 t [k] hf fuel _ x ht
    have hv' := hv
    simp only [Value.okWide, hu] at hv
    obtain ⟨a, n, c, rfl⟩ : ∃ a n c, v = .slice a n c := by
      have hv'' := hv
      simp only [Cell.okWide, hu] at hv''
      cases v <;> simp_all [Cell.ok]
    have hk : ∃ e sz els, k = .slc t e sz els := by
      simp only [flat, hu] at hf
      split at hf
      · split at hf
        · simp at hf; exact ⟨_, _, _, hf.symm⟩
        · cases hf
      · cases hf
    obtain ⟨e, sz, els, rfl⟩ := hk
    exact ⟨hq hw ⟨hv, trivial⟩ i, by simp, fun _ => ⟨rfl, rfl⟩⟩
  · cases hp
theorem argV_rel {j : J} {g : Bool} {cs : List Cell} {v : Value} (h : All2 (RelC1 j) cs v.cells.toList) (hg : g = true → v = .agg v.cells) (hf : g = false → v.cells = #[v]) : RelV1 j (argV g cs) v := by
  cases g with
  | true => exact ⟨v.cells.toList, by simpa using hg rfl, h⟩
  | false =>
    rw [hf rfl] at h
    match cs, h with
    | [], h => exact h.elim
    | [c], h => exact h.1.1
    | _ :: _ :: _, h => exact h.2.elim
theorem argV_keys {g : Bool} {cs : List Cell} (h : ∀ c ∈ cs, ∀ k ∈ c.keys, outKey k) : ∀ k ∈ (argV g cs).keys1, outKey k := by
  intro k hk
  have hm : ∀ {cs : List Cell}, k ∈ cellsKeys cs → ∃ c ∈ cs, k ∈ c.keys := by
    intro cs
    induction cs with
    | nil => intro h; simp [cellsKeys] at h
    | cons c cs ih =>
      intro h
      simp only [cellsKeys, List.mem_append] at h
      rcases h with h | h
      · exact ⟨c, by simp, h⟩
      · obtain ⟨c', h1, h2⟩ := ih h; exact ⟨c', by simp [h1], h2⟩
  cases g with
  | true =>
    simp only [argV, V.keys1] at hk
    obtain ⟨c, h1, h2⟩ := hm hk
    exact h c h1 k h2
  | false =>
    match cs, h, hk with
    | [], h, hk => simp [argV, V.keys1, Cell.keys] at hk
    | [c], h, hk => exact h c (by simp) k hk
    | _ :: _ :: _, h, hk => simp [argV, V.keys1, Cell.keys] at hk
theorem args_open {base : Nat} : ∀ (ts : List Nat) (pars : List Par), parsOf P ts = some pars → ∀ (vs : List Value) (ds : List (DataW H)) (pl : List MemPlace), DataW.TrodAll enc P w 0 (fun _ => true) true ts vs ds pl →
    (∀ m ∈ DataW.weightsEach P ts ds, m ≤ reachBytes) → (∀ (i : Nat) (t : Nat) (v : Value), ts[i]? = some t → vs[i]? = some v → Value.okWide P w .any base t v) → ∀ i : Nat,
    ∃ (xs : List V) (bs : List Blk) (ps : List (Option Place)), ps.length = bs.length ∧ wfArgs pars xs i bs ∧ ∀ j : J, (∀ (m : Nat) (p : Option Place), ps[m]? = some p → j (.o (i + m)) = p) →
      All2 (RelV1 j) xs vs ∧ (∀ v ∈ xs, ∀ k ∈ v.keys1, outKey k) ∧ ∀ (m : Nat) (b : Blk), bs[m]? = some b → b.own = false ∧ b.pl = true ∧ ∃ p, ps[m]? = some p ∧ (p = none → b.els = []) ∧ ∀ pl, p = some pl → RelB j b pl w
  | [], pars, hp, vs, ds, pl, ht, hw, hv, i => by
    simp [parsOf] at hp; subst hp
    cases vs <;> cases ds <;> simp [DataW.TrodAll] at ht
    exact ⟨[], [], [], rfl, rfl, fun j _ => ⟨trivial, by simp, by simp⟩⟩
  | t :: ts, pars, hp, vs, ds, pl, ht, hw, hv, i => by
    simp only [parsOf] at hp
    split at hp <;> simp at hp
    rename_i p pars' h1 h2
    subst hp
    cases vs with
    | nil => simp [DataW.TrodAll] at ht
    | cons v vs =>
      cases ds with
      | nil => simp [DataW.TrodAll] at ht
      | cons d ds =>
        obtain ⟨pa, pb, ⟨fuel, ht1⟩, ht2, rfl⟩ := ht
        obtain ⟨g, ks⟩ := p
        simp only [DataW.weightsEach, List.mem_append] at hw
        obtain ⟨⟨as, bs1, ps1, hr⟩, hg1, hg2⟩ := par_rep h1 (hv 0 t v rfl rfl) ht1 (fun m hm => hw m (.inl hm)) i
        obtain ⟨xs, bs2, ps2, hl2, hwf2, hj2⟩ := args_open ts pars' h2 vs ds pb ht2 (fun m hm => hw m (.inr hm)) (fun a b c ha hc => hv (a + 1) b c (by simpa using ha) (by simpa using hc)) (i + bs1.length)
        have hl1 := hr.lens.1
        have hwf1 : wfCells ks as i bs1 := (hr.facts (j := fun k => match k with | .o n => (ps1[n - i]?).getD none | .l _ => none) (fun m p hm => by
          show (ps1[i + m - i]?).getD none = p
          rw [show i + m - i = m by omega, hm]; rfl)).2.2.1
        refine ⟨argV g as :: xs, bs1 ++ bs2, ps1 ++ ps2, by simp [hl1, hl2], ⟨as, bs1, bs2, rfl, rfl, hwf1, hwf2⟩, fun j hj => ?_⟩
        obtain ⟨q1, q2, _, q4⟩ := hr.facts (j := j) (fun m p hm => hj m p (by rw [List.getElem?_append_left (List.getElem?_eq_some_iff.1 hm).1]; exact hm))
        obtain ⟨r1, r2, r3⟩ := hj2 j (fun m p hm => by
          have := hj (bs1.length + m) p (by rw [List.getElem?_append_right (by omega)]; rw [show bs1.length + m - ps1.length = m by omega]; exact hm)
          rwa [show i + bs1.length + m = i + (bs1.length + m) by omega])
        refine ⟨⟨argV_rel q1 hg1 (fun h => (hg2 h).1), r1⟩, ?_, ?_⟩
        · intro x hx k hk
          rcases List.mem_cons.1 hx with rfl | hx
          · exact argV_keys q2 k hk
          · exact r2 x hx k hk
        · intro m b hm
          by_cases hlt : m < bs1.length
          · rw [List.getElem?_append_left hlt] at hm
            rw [List.getElem?_append_left (by omega)]
            exact q4 m b hm
          · rw [List.getElem?_append_right (by omega)] at hm
            rw [List.getElem?_append_right (by omega), hl1]
            exact r3 _ b hm
/-- What a law's row asks of its walk. -/
theorem law_calls {f : Nat} {pars : List Par} {ts : List Nat} (hpar : parsOf P ts = some pars) {call : CallF} (hS : CallSound P call) (pure : ∀ args out, wfArgs pars args 0 out → ∃ os news, call f args out = some (.c (.bool true), os, news))
    {W : World} {base : Nat} {vs : List Value} {ds : List (DataW H)} {pl : List MemPlace} (ht : DataW.TrodAll enc P W 0 (fun _ => true) true ts vs ds pl) (hw : (DataW.weightsEach P ts ds).all (· ≤ reachBytes) = true)
    (hv : ∀ (i : Nat) (t : Nat) (v : Value), ts[i]? = some t → vs[i]? = some v → Value.okWide P W .any base t v) : Calls P f vs.toArray W fun e W' => e = .returned (.bool true) ∧ Below W.heap.size W W' := by
  obtain ⟨xs, bs, ps, hl, hwf, hj⟩ := args_open ts pars hpar vs ds pl ht (fun m hm => by simpa using List.all_eq_true.1 hw m hm) hv 0
  let j : J := fun k => match k with | .o n => (ps[n]?).getD none | .l _ => none
  obtain ⟨q1, q2, q3⟩ := hj j (fun m p hm => by show (ps[0 + m]?).getD none = p; rw [Nat.zero_add, hm]; rfl)
  obtain ⟨os, news, hp⟩ := pure xs bs hwf
  have hH : RelH j (outG bs) W := by
    refine ⟨fun k b hk hn => ?_, fun k b p hk hp => ?_, fun k k' b b' p p' hk _ _ ho _ _ => ?_⟩
    · cases k with
      | l s => simp [outG] at hk
      | o i =>
        obtain ⟨_, _, p, h3, h4, _⟩ := q3 i b hk
        have : p = none := by have : (ps[i]?).getD none = none := hn; rw [h3] at this; exact this
        exact h4 this
    · cases k with
      | l s => simp [outG] at hk
      | o i =>
        obtain ⟨_, _, p', h3, _, h5⟩ := q3 i b hk
        have : (ps[i]?).getD none = some p := hp
        rw [h3] at this
        exact h5 p this
    · cases k with
      | l s => simp [outG] at hk
      | o i =>
        have := (q3 i b hk).1
        rw [this] at ho; cases ho
  refine ((hS f xs bs _ os news hp).2 j W vs q1 (fun s => rfl) q2 (fun b hb k hk => ?_) hH).mono ?_
  · obtain ⟨i, hi⟩ := List.getElem?_of_mem hb
    have := (q3 i b hi).2.1
    simp [Blk.keys, this] at hk
  · rintro e W' ⟨rv, j', rfl, _, hrv, _, hW, _⟩
    have : rv = .bool true := hrv
    subst this
    refine ⟨rfl, hW.os, hW.tape, hW.output, hW.size, fun k hk => hW.block k hk ?_⟩
    rintro ⟨i, b, p, h1, h2, _⟩
    have := (q3 i b h1).1
    rw [this] at h2; cases h2
/-- The arguments, read behind the call. -/
theorem args_shut (hl : laidOutB P = true) {W W' : World} (hb : Below W.heap.size W W') : ∀ {ts : List Nat} {vs : List Value} {ds : List (DataW H)} {pl : List MemPlace}, ts.all (fun t => P.readableRec t && decide (t < P.types.size)) = true →
    DataW.TrodAll enc P W 0 (fun _ => true) true ts vs ds pl → DataW.TrodAll enc P W' 0 (fun b => decide (b < W.heap.size)) true ts vs ds pl
  | [], vs, ds, pl, _, h => by
    cases vs <;> cases ds <;> simp_all [DataW.TrodAll]
  | t :: ts, vs, ds, pl, hr, h => by
    cases vs with
    | nil => simp [DataW.TrodAll] at h
    | cons v vs =>
      cases ds with
      | nil => simp [DataW.TrodAll] at h
      | cons d ds =>
        obtain ⟨pa, pb, h1, h2, rfl⟩ := h
        simp only [List.all_cons, Bool.and_eq_true, decide_eq_true_eq] at hr
        have lt : ∀ x ∈ pa, x.block < W.heap.size := by obtain ⟨m, hm⟩ := h1; exact DataW.trod_lt m _ _ _ hm
        exact ⟨pa, pb, Below.trod hl hr.1.1 hr.1.2 h1 hb lt, args_shut hl hb hr.2 h2, rfl⟩
theorem trodAll_len {base : Nat} {spare : Nat → Bool} {held : Bool} : ∀ {ts : List Nat} {vs : List Value} {ds : List (DataW H)} {pl : List MemPlace}, DataW.TrodAll enc P w base spare held ts vs ds pl → ds.length = ts.length
  | [], vs, ds, pl, h => by cases vs <;> cases ds <;> simp_all [DataW.TrodAll]
  | t :: ts, vs, ds, pl, h => by
    cases vs with
    | nil => simp [DataW.TrodAll] at h
    | cons v vs =>
      cases ds with
      | nil => simp [DataW.TrodAll] at h
      | cons d ds =>
        obtain ⟨pa, pb, _, h2, _⟩ := h
        simp [trodAll_len h2]
open Go.ChangeShapes in
/-- A law's row, lifted: what it asks is the evaluator's answer. -/
theorem law_lift {C : Checked} {os : Os} {f : FuncId} {fn : Func} {s : ChangeSpec} {conds : List PathCond} {rt : TypeId} {pars : List Par} {call : CallF} (own : ownKnob C.prog.godebug = none) (started : os.Started) (noInit : C.prog.inits.idxOf? f = none) (hfn : C.prog.funcs[f]? = some fn)
    (witness : ∃ (w : World) (tape : Tape) (i : Input), w.os = os ∧ (w.forCall tape i).Shaped C.prog ∧ i.vars = [] ∧ Input.okWide C.prog (w.forCall tape i) .any w.heap.size f i ∧
      s.pre6 enc C.prog fn conds false (w.forCall tape i).memory i.args ∧ ({} : Assume).holds C.prog (lone (Frame.enter C.prog f i.args .normal) [] (w.forCall tape i)))
    (hpar : parsOf C.prog fn.params.toList = some pars) (hS : CallSound C.prog call) (pure : ∀ args out, wfArgs pars args 0 out → ∃ os news, call f args out = some (.c (.bool true), os, news)) (hl : laidOutB C.prog = true)
    (hall : fn.params.toList.all (fun t => C.prog.readableRec t && decide (t < C.prog.types.size)) = true) (hvars : s.vars = []) (hres : fn.resultTypes = #[rt]) (hrt : C.prog.underlying rt = some .bool)
    (hsf : ∀ ds : List (DataW H), ds.length = fn.params.toList.length → s.fn H ds = { results := [.lit (.bool true)], args := ds }) :
    ReturnsInHanded {} C os f .any (s.pre6 enc C.prog fn conds false) (s.post enc C.prog fn false true false false) := by
  refine returnsInHanded_of_change_sized own started noInit hfn witness ?_
  intro W base args ds gs before hval hW _ hsz _
  have hW' := hW
  obtain ⟨p, q, hA, hV, rfl, hfz, hnd⟩ := hW
  rw [hvars] at hV
  obtain ⟨rfl, rfl⟩ := trodVars_none hV
  have hv : s.plain.varTypes C.prog = [] := by simp [ChangeSpec.plain, hvars, DataSpec.varTypes]
  rw [hv, List.append_nil, List.append_nil] at hsz
  have calls := law_calls hpar hS pure hA hsz (fun i t v ht hv => hval i t v (by simpa using ht) (by simpa using hv))
  rw [show args.toList.toArray = args by simp] at calls
  refine calls.mono fun e W' ⟨he, bel⟩ => ?_
  subst he
  have hfn' := hsf ds (trodAll_len hA)
  refine ⟨_, rfl, ds, [], _, [], p, [], hW', ?_, ?_, ?_, bel.frame _, fun h => by cases h⟩
  · rw [List.append_nil, hfn', hres]
    exact trodAll_mk1 (shut_bool hrt _)
  · rw [List.append_nil, hfn']
    exact args_shut hl bel hall hA
  · rw [List.append_nil, hfn', hvars]
    rfl

/-! ### All functions -/
def OkAll (P : Program) : List (Nat × Ent) → Prop
  | [] => True
  | (n, .fn F) :: r => compF P n F = some F ∧ OkAll P r
  | (n, .prim p) :: r => (∀ call, CallSound P call → Sound1 P n (p call)) ∧ OkAll P r
theorem OkAll.fn {l : List (Nat × Ent)} (h : OkAll P l) {f : Nat} {F : IFun} (hf : lk f l = some (.fn F)) : compF P f F = some F := by
  induction l with
  | nil => simp [lk] at hf
  | cons x r ih =>
    obtain ⟨n, e⟩ := x
    simp only [lk] at hf
    split at hf
    · rename_i hn
      subst hn
      simp at hf; subst hf
      exact h.1
    · cases e with
      | fn G => exact ih h.2 hf
      | prim p => exact ih h.2 hf
theorem OkAll.prim {l : List (Nat × Ent)} (h : OkAll P l) {f : Nat} {p : CallF → List V → List Blk → Option (V × List (Option Blk) × List Blk)} (hf : lk f l = some (.prim p)) : ∀ call, CallSound P call → Sound1 P f (p call) := by
  induction l with
  | nil => simp [lk] at hf
  | cons x r ih =>
    obtain ⟨n, e⟩ := x
    simp only [lk] at hf
    split at hf
    · rename_i hn
      subst hn
      simp at hf; subst hf
      exact h.1
    · cases e with
      | fn G => exact ih h.2 hf
      | prim p => exact ih h.2 hf
theorem sound_of (hm : P.follows .mixedOrders = true) {l : List (Nat × Ent)} (h : OkAll P l) (D : Nat) : CallSound P (evFun (fun f => lk f l) D) :=
  evFun_sound hm (fun _ _ hf => h.fn hf) (fun _ _ hf => h.prim hf) D
end Go.Ab

namespace Go.Ab
theorem inK_u8 {n : Int} (h : inK .u8 n) : 0 ≤ n ∧ n ≤ 255 := by simpa [inK, IntKind.min, IntKind.max, IntKind.signed, IntKind.bits] using h
theorem inK_u16 {n : Int} (h : inK .u16 n) : 0 ≤ n ∧ n ≤ 65535 := by simpa [inK, IntKind.min, IntKind.max, IntKind.signed, IntKind.bits] using h
theorem inK_u32 {n : Int} (h : inK .u32 n) : 0 ≤ n ∧ n ≤ 4294967295 := by simpa [inK, IntKind.min, IntKind.max, IntKind.signed, IntKind.bits] using h
theorem inK_u64 {n : Int} (h : inK .u64 n) : 0 ≤ n ∧ n ≤ 18446744073709551615 := by simpa [inK, IntKind.min, IntKind.max, IntKind.signed, IntKind.bits] using h
theorem inK_i32 {n : Int} (h : inK .i32 n) : -2147483648 ≤ n ∧ n ≤ 2147483647 := by simpa [inK, IntKind.min, IntKind.max, IntKind.signed, IntKind.bits] using h
theorem inK_i64 {n : Int} (h : inK .i64 n) : -9223372036854775808 ≤ n ∧ n ≤ 9223372036854775807 := by simpa [inK, IntKind.min, IntKind.max, IntKind.signed, IntKind.bits] using h
theorem wfC_int {k : IntKind} {ks : List CK} {cs : List Cell} {i : Nat} {bs : List Blk} (h : wfCells (.int k :: ks) cs i bs) : ∃ n r, cs = .int k n :: r ∧ inK k n ∧ wfCells ks r i bs := by
  cases cs with
  | nil => simp [wfCells] at h
  | cons c r =>
    simp only [wfCells] at h
    cases c <;> simp [inKind] at h
    obtain ⟨⟨rfl, h1⟩, h2⟩ := h
    exact ⟨_, r, rfl, h1, h2⟩
theorem wfC_nil {cs : List Cell} {i : Nat} {bs : List Blk} (h : wfCells [] cs i bs) : cs = [] ∧ bs = [] := by
  cases cs <;> cases bs <;> simp_all [wfCells]
theorem wfC_slc {t e sz : Nat} {els ks : List CK} {cs : List Cell} {i : Nat} {bs : List Blk} (h : wfCells (.slc t e sz els :: ks) cs i bs) :
    ∃ rows r bs', cs = .slc (.o i) sz 0 rows.length :: r ∧ bs = ⟨e, sz, false, true, rows⟩ :: bs' ∧ rows.length ≤ 140737488351232 ∧ (∀ x ∈ rows, All2 inKind els x) ∧ wfCells ks r (i + 1) bs' := by
  cases cs with
  | nil => simp [wfCells] at h
  | cons c r =>
    cases c with
    | slc k z i0 n =>
      cases k with
      | o j =>
        cases bs with
        | nil => simp [wfCells, inKind] at h
        | cons b bs' =>
          simp only [wfCells] at h
          obtain ⟨⟨rfl, rfl, rfl, rows, rfl, h1, h2, h3⟩, h4⟩ := h
          exact ⟨rows, r, bs', by rw [h1], rfl, by omega, h3, h4⟩
      | l j => simp [wfCells, inKind] at h
    | _ => simp [wfCells, inKind] at h
theorem wfA_nil {xs : List V} {i : Nat} {bs : List Blk} (h : wfArgs [] xs i bs) : xs = [] ∧ bs = [] := by
  cases xs <;> simp_all [wfArgs]
theorem wfA_cons {g : Bool} {ks : List CK} {r : List Par} {xs : List V} {i : Nat} {bs : List Blk} (h : wfArgs ((g, ks) :: r) xs i bs) : ∃ cs ys bs1 bs2, xs = argV g cs :: ys ∧ bs = bs1 ++ bs2 ∧ wfCells ks cs i bs1 ∧ wfArgs r ys (i + bs1.length) bs2 := by
  cases xs with
  | nil => simp [wfArgs] at h
  | cons x ys =>
    obtain ⟨cs, bs1, bs2, rfl, rfl, h1, h2⟩ := h
    exact ⟨cs, ys, bs1, bs2, rfl, rfl, h1, h2⟩
theorem wfA_int {k : IntKind} {r : List Par} {xs : List V} {i : Nat} {bs : List Blk} (h : wfArgs ((false, [.int k]) :: r) xs i bs) : ∃ n ys, xs = .c (.int k n) :: ys ∧ inK k n ∧ wfArgs r ys i bs := by
  obtain ⟨cs, ys, bs1, bs2, rfl, rfl, h1, h2⟩ := wfA_cons h
  obtain ⟨n, r', rfl, h3, h4⟩ := wfC_int h1
  obtain ⟨rfl, rfl⟩ := wfC_nil h4
  exact ⟨n, ys, rfl, h3, by simpa using h2⟩
theorem wfA_fix {r : List Par} {xs : List V} {i : Nat} {bs : List Blk} (h : wfArgs ((true, [.int .i64, .int .u64]) :: r) xs i bs) : ∃ a b ys, xs = .agg [.int .i64 a, .int .u64 b] :: ys ∧ (-9223372036854775808 ≤ a ∧ a ≤ 9223372036854775807 ∧ 0 ≤ b ∧ b ≤ 18446744073709551615) ∧ wfArgs r ys i bs := by
  obtain ⟨cs, ys, bs1, bs2, rfl, rfl, h1, h2⟩ := wfA_cons h
  obtain ⟨a, r', rfl, h3, h4⟩ := wfC_int h1
  obtain ⟨b, r'', rfl, h5, h6⟩ := wfC_int h4
  obtain ⟨rfl, rfl⟩ := wfC_nil h6
  have := inK_i64 h3
  have := inK_u64 h5
  exact ⟨a, b, ys, rfl, ⟨by omega, by omega, by omega, by omega⟩, by simpa using h2⟩
/-- Bytes. -/
theorem wfA_bytes {t e : Nat} {r : List Par} {xs : List V} {i : Nat} {bs : List Blk} (h : wfArgs ((false, [.slc t e 1 [.int .u8]]) :: r) xs i bs) :
    ∃ (ns : List Int) (ys : List V) (bs' : List Blk), xs = .c (.slc (.o i) 1 0 ns.length) :: ys ∧ bs = ⟨e, 1, false, true, ns.map fun n => [.int .u8 n]⟩ :: bs' ∧ ns.length ≤ 140737488351232 ∧ (∀ n ∈ ns, 0 ≤ n ∧ n ≤ 255) ∧ wfArgs r ys (i + 1) bs' := by
  obtain ⟨cs, ys, bs1, bs2, rfl, rfl, h1, h2⟩ := wfA_cons h
  obtain ⟨rows, r', bs', rfl, rfl, h3, h4, h5⟩ := wfC_slc h1
  obtain ⟨rfl, rfl⟩ := wfC_nil h5
  have hns : ∃ ns : List Int, rows = ns.map (fun n => [.int .u8 n]) ∧ ∀ n ∈ ns, 0 ≤ n ∧ n ≤ 255 := by
    clear h h1 h2 h3
    induction rows with
    | nil => exact ⟨[], rfl, by simp⟩
    | cons x xs ih =>
      obtain ⟨ns, rfl, q⟩ := ih (fun x hx => h4 x (by simp [hx]))
      have hx := h4 x (by simp)
      match x, hx with
      | [c], hx =>
        have hc := hx.1
        cases c <;> simp [inKind] at hc
        rename_i k n
        obtain ⟨rfl, hc⟩ := hc
        refine ⟨n :: ns, rfl, fun m hm => ?_⟩
        rcases List.mem_cons.1 hm with rfl | hm
        · exact inK_u8 hc
        · exact q m hm
      | [], hx => exact hx.elim
      | _ :: _ :: _, hx => exact hx.2.elim
  obtain ⟨ns, rfl, q⟩ := hns
  refine ⟨ns, ys, bs2, by simp [argV], by simp, by simpa using h3, q, by simpa using h2⟩
end Go.Ab

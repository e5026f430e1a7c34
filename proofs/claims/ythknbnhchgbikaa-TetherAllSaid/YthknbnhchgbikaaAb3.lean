/- Words for this claim: an evaluator of the program's functions, and what they come to. -/
import Derived.Test.YthknbnhchgbikaaAb1
set_option linter.all false
namespace Go.Ab
theorem wrap_u64 (n : Int) : IntKind.u64.wrap n = n % 18446744073709551616 := by
  simp [IntKind.wrap, IntKind.signed, IntKind.bits]
theorem wrap_i64 (n : Int) : IntKind.i64.wrap n = (n + 9223372036854775808) % 18446744073709551616 - 9223372036854775808 := by
  simp only [IntKind.wrap, IntKind.signed, IntKind.bits, Bool.true_and]
  split <;> rename_i h <;> simp at h <;> simp <;> omega
theorem bits_u64 (n : Nat) : min n IntKind.u64.bits = min n 64 := rfl
theorem bits_i64 (n : Nat) : min n IntKind.i64.bits = min n 64 := rfl
def orI (a b : Int) : Int := ((a.toNat ||| b.toNat : Nat) : Int)
def andI (a b : Int) : Int := ((a.toNat &&& b.toNat : Nat) : Int)
theorem toNat_ofInt (a : Int) : (BitVec.ofInt 64 a).toNat = (a % 18446744073709551616).toNat := by
  simp [BitVec.toNat_ofInt]
theorem orI_lt {a b : Int} (ha : 0 ≤ a) (ha' : a < 18446744073709551616) (hb : 0 ≤ b) (hb' : b < 18446744073709551616) : 0 ≤ orI a b ∧ orI a b < 18446744073709551616 := by
  have h1 : a.toNat < 2 ^ 64 := by omega
  have h2 : b.toNat < 2 ^ 64 := by omega
  have := Nat.or_lt_two_pow h1 h2
  unfold orI; omega
theorem or_u64 (a b : Int) : orK .u64 a b = orI (a % 18446744073709551616) (b % 18446744073709551616) := by
  have h := orI_lt (a := a % 18446744073709551616) (b := b % 18446744073709551616) (by omega) (by omega) (by omega) (by omega)
  have e : (((BitVec.ofInt IntKind.u64.bits a ||| BitVec.ofInt IntKind.u64.bits b).toNat : Nat) : Int) = orI (a % 18446744073709551616) (b % 18446744073709551616) := by
    simp only [orI, BitVec.toNat_or]; rw [show IntKind.u64.bits = 64 from rfl, toNat_ofInt, toNat_ofInt]
  rw [orK, e, wrap_u64]; omega
theorem and_u64 (a b : Int) : andK .u64 a b = andI (a % 18446744073709551616) (b % 18446744073709551616) := by
  have e : (((BitVec.ofInt IntKind.u64.bits a &&& BitVec.ofInt IntKind.u64.bits b).toNat : Nat) : Int) = andI (a % 18446744073709551616) (b % 18446744073709551616) := by
    simp only [andI, BitVec.toNat_and]; rw [show IntKind.u64.bits = 64 from rfl, toNat_ofInt, toNat_ofInt]
  have h : 0 ≤ andI (a % 18446744073709551616) (b % 18446744073709551616) ∧ andI (a % 18446744073709551616) (b % 18446744073709551616) < 18446744073709551616 := by
    have h1 : (a % 18446744073709551616).toNat < 2 ^ 64 := by omega
    have := Nat.and_lt_two_pow (b % 18446744073709551616).toNat h1
    unfold andI
    rw [Nat.and_comm] at this
    omega
  rw [andK, e, wrap_u64]; omega
theorem orI_zero (a : Int) (h : 0 ≤ a) : orI a 0 = a := by simp [orI]; omega
/-- Two numbers of other bits. -/
theorem orI_add (a b : Int) (k : Nat) (ha : 0 ≤ a) (hb : 0 ≤ b) (hlt : b < 2 ^ k) (hd : a % 2 ^ k = 0) : orI a b = a + b := by
  obtain ⟨x, rfl⟩ := Int.eq_ofNat_of_zero_le ha
  obtain ⟨y, rfl⟩ := Int.eq_ofNat_of_zero_le hb
  have hlt' : y < 2 ^ k := by exact_mod_cast hlt
  have hd' : x % 2 ^ k = 0 := by exact_mod_cast hd
  obtain ⟨q, rfl⟩ : ∃ q, x = q * 2 ^ k := ⟨x / 2 ^ k, by have := Nat.div_add_mod x (2 ^ k); rw [hd'] at this; rw [Nat.mul_comm]; omega⟩
  have : (q * 2 ^ k ||| y) = q * 2 ^ k + y := by
    rw [Nat.mul_comm, Nat.two_pow_add_eq_or_of_lt hlt']
  unfold orI
  simp only [Int.toNat_natCast]
  rw [this]; simp
theorem b2i_dec (p : Prop) [Decidable p] : b2i (decide p) = if p then 1 else 0 := by by_cases h : p <;> simp [h, b2i]
end Go.Ab

namespace Go.Ab
variable {call : CallF}
/-- A law that is not to be unfolded again. -/
theorem nr {α : Type} {a b : α} (h : a = b) : a = b := h
def loopC (call : CallF) (b : ICode) (tr bx : List Nat) (n : Nat) (σ : St) : Option (Ex × St) := evLoop (evCode call b) tr bx n σ
def seqC (call : CallF) (b : ICode) (x : Option (Ex × St)) : Option (Ex × St) := thenC x (evCode call b)
def condC (call : CallF) (a b : ICode) (v : V) (σ : St) : Option (Ex × St) :=
  match v with
  | .c (.bool t) => if t then evCode call a σ else evCode call b σ
  | _ => none
def nextC (call : CallF) (b : ICode) (tr bx : List Nat) (n : Nat) (x : Option (Ex × St)) : Option (Ex × St) :=
  match x with
  | some (.normal, σ) => loopC call b tr bx n (σ.trim tr bx)
  | x => x
def regC (x : Option St) : Option (Ex × St) := match x with
  | some σ => some (.normal, σ)
  | none => none
theorem e_skip (σ : St) : evCode call .skip σ = some (.normal, σ) := nr rfl
theorem e_reg (draw : Bool) (sw : List Nat) (un : List (Nat × Nat)) (ops : List IOper) (σ : St) : evCode call (.reg draw sw un ops) σ = regC (evReg call draw sw un ops σ) := nr rfl
theorem regC_some (σ : St) : regC (some σ) = some (.normal, σ) := nr rfl
theorem e_seq (a b : ICode) (σ : St) : evCode call (.seq a b) σ = seqC call b (evCode call a σ) := nr rfl
theorem seqC_n (b : ICode) (σ : St) : seqC call b (some (.normal, σ)) = evCode call b σ := nr rfl
theorem seqC_e (b : ICode) (σ : St) (i : Nat) : seqC call b (some (.exit i, σ)) = some (.exit i, σ) := nr rfl
theorem seqC_r (b : ICode) (σ : St) : seqC call b (some (.ret, σ)) = some (.ret, σ) := nr rfl
theorem e_cond (c : Src) (a b : ICode) (σ : St) : evCode call (.cond c a b) σ = condC call a b (σ.ev c) σ := nr rfl
theorem condC_t (a b : ICode) (σ : St) : condC call a b (.c (.bool true)) σ = evCode call a σ := nr rfl
theorem condC_f (a b : ICode) (σ : St) : condC call a b (.c (.bool false)) σ = evCode call b σ := nr rfl
theorem e_block (id : Nat) (b : ICode) (σ : St) : evCode call (.block id b) σ = inB id (evCode call b σ) := nr rfl
theorem e_loop (tr bx : List Nat) (b : ICode) (σ : St) : evCode call (.loop tr bx b) σ = loopC call b tr bx 18446744073709551616 σ := nr rfl
theorem e_exit (id : Nat) (σ : St) : evCode call (.exit id) σ = some (.exit id, σ) := nr rfl
theorem e_ret (σ : St) : evCode call .ret σ = some (.ret, σ) := nr rfl
theorem loopC_step (b : ICode) (tr bx : List Nat) (n : Nat) (σ : St) : loopC call b tr bx (n + 1) σ = nextC call b tr bx n (evCode call b σ) := nr rfl
theorem nextC_n (b : ICode) (tr bx : List Nat) (n : Nat) (σ : St) : nextC call b tr bx n (some (.normal, σ)) = loopC call b tr bx n (σ.trim tr bx) := nr rfl
theorem nextC_e (b : ICode) (tr bx : List Nat) (n i : Nat) (σ : St) : nextC call b tr bx n (some (.exit i, σ)) = some (.exit i, σ) := nr rfl
theorem nextC_r (b : ICode) (tr bx : List Nat) (n : Nat) (σ : St) : nextC call b tr bx n (some (.ret, σ)) = some (.ret, σ) := nr rfl
end Go.Ab

namespace Go.Ab
/-- One bit more of a quotient. -/
theorem div_step (A b : Int) (n : Nat) (hA : 0 ≤ A) (hb : 0 < b) :
    A / 2 ^ n = 2 * (A / 2 ^ (n + 1)) + A / 2 ^ n % 2 ∧
    (2 * (A / 2 ^ (n + 1) % b) + A / 2 ^ n % 2 < b → A / 2 ^ n / b = 2 * (A / 2 ^ (n + 1) / b) ∧ A / 2 ^ n % b = 2 * (A / 2 ^ (n + 1) % b) + A / 2 ^ n % 2) ∧
    (b ≤ 2 * (A / 2 ^ (n + 1) % b) + A / 2 ^ n % 2 → A / 2 ^ n / b = 2 * (A / 2 ^ (n + 1) / b) + 1 ∧ A / 2 ^ n % b = 2 * (A / 2 ^ (n + 1) % b) + A / 2 ^ n % 2 - b) := by
  have e : A / 2 ^ (n + 1) = A / 2 ^ n / 2 := by
    rw [Int.pow_succ, Int.ediv_ediv_of_nonneg (by exact Int.le_of_lt (Int.pow_pos (by decide)))]
  rw [e]
  generalize A / 2 ^ n = v
  have h1 : v = 2 * (v / 2) + v % 2 := by omega
  have h2 : 0 ≤ v % 2 ∧ v % 2 < 2 := by omega
  refine ⟨h1, fun h => ?_, fun h => ?_⟩
  · have d := Int.emod_add_mul_ediv (v / 2) b
    have p := Int.emod_nonneg (v / 2) (by omega : b ≠ 0)
    have ed : v = b * (2 * (v / 2 / b)) + (2 * (v / 2 % b) + v % 2) := by
      rw [show b * (2 * (v / 2 / b)) = 2 * (b * (v / 2 / b)) by rw [Int.mul_left_comm]]
      omega
    have q := Int.ediv_emod_unique (a := v) (b := b) (r := 2 * (v / 2 % b) + v % 2) (q := 2 * (v / 2 / b)) hb
    have := q.2 ⟨by omega, by omega, h⟩
    exact this
  · have d := Int.emod_add_mul_ediv (v / 2) b
    have p := Int.emod_nonneg (v / 2) (by omega : b ≠ 0)
    have l := Int.emod_lt_of_pos (v / 2) hb
    have ed : v = b * (2 * (v / 2 / b) + 1) + (2 * (v / 2 % b) + v % 2 - b) := by
      rw [Int.mul_add, show b * (2 * (v / 2 / b)) = 2 * (b * (v / 2 / b)) by rw [Int.mul_left_comm]]
      omega
    have q := Int.ediv_emod_unique (a := v) (b := b) (r := 2 * (v / 2 % b) + v % 2 - b) (q := 2 * (v / 2 / b) + 1) hb
    exact q.2 ⟨by omega, by omega, by omega⟩
def sqrtGo : Nat → Int → Int → Int
  | 0, _, s => s
  | n + 1, a, s => if (s + 2 ^ n) * (s + 2 ^ n) ≤ a then sqrtGo n a (s + 2 ^ n) else sqrtGo n a s
/-- The greatest number whose square is at most a number (of 256 bits). -/
def sqrtI (a : Int) : Int := sqrtGo 128 a 0
theorem sqrtGo_spec (a : Int) : ∀ (n : Nat) (s : Int), 0 ≤ s → s * s ≤ a → a < (s + 2 ^ n) * (s + 2 ^ n) → 0 ≤ sqrtGo n a s ∧ sqrtGo n a s * sqrtGo n a s ≤ a ∧ a < (sqrtGo n a s + 1) * (sqrtGo n a s + 1)
  | 0, s, h0, h1, h2 => by simpa [sqrtGo] using ⟨h0, h1, h2⟩
  | n + 1, s, h0, h1, h2 => by
    have hp : (0 : Int) < 2 ^ n := Int.pow_pos (by decide)
    unfold sqrtGo
    split
    · rename_i h
      refine sqrtGo_spec a n _ (by omega) h ?_
      rwa [show s + 2 ^ n + 2 ^ n = s + 2 ^ (n + 1) by rw [Int.pow_succ]; omega]
    · rename_i h
      exact sqrtGo_spec a n s h0 h1 (by omega)
theorem sqrtI_spec (a : Int) (h0 : 0 ≤ a) (h1 : a < 115792089237316195423570985008687907853269984665640564039457584007913129639936) : 0 ≤ sqrtI a ∧ sqrtI a * sqrtI a ≤ a ∧ a < (sqrtI a + 1) * (sqrtI a + 1) :=
  sqrtGo_spec a 128 0 (by omega) (by omega) (by simpa using h1)
theorem sq_le {r s : Int} (hr : 0 ≤ r) (h : r ≤ s) : r * r ≤ s * s := Int.mul_le_mul h h hr (by omega)
theorem sq_lt_of {r s : Int} (hs : 0 ≤ s) (h : r * r < s * s) : r < s := by
  by_cases q : r < s
  · exact q
  · have := sq_le hs (show s ≤ r by omega); omega
theorem sq_unique {a r s : Int} (hr : 0 ≤ r) (hs : 0 ≤ s) (h1 : r * r ≤ a) (h2 : a < (r + 1) * (r + 1)) (h3 : s * s ≤ a) (h4 : a < (s + 1) * (s + 1)) : r = s := by
  have := sq_lt_of (r := r) (s := s + 1) (by omega) (by omega)
  have := sq_lt_of (r := s) (s := r + 1) (by omega) (by omega)
  omega
/-- Any start with enough bits comes to the same root. -/
theorem sqrtGo_eq (a : Int) (n : Nat) (h0 : 0 ≤ a) (h1 : a < 115792089237316195423570985008687907853269984665640564039457584007913129639936) (h : a < 2 ^ n * 2 ^ n) : sqrtGo n a 0 = sqrtI a := by
  have p := sqrtGo_spec a n 0 (by omega) (by omega) (by simpa using h)
  have q := sqrtI_spec a h0 h1
  exact sq_unique p.1 q.1 p.2.1 p.2.2 q.2.1 q.2.2
theorem sqrtI_of {a r : Int} (h1 : a < 115792089237316195423570985008687907853269984665640564039457584007913129639936) (hr : 0 ≤ r) (h2 : r * r ≤ a) (h3 : a < (r + 1) * (r + 1)) : sqrtI a = r := by
  have h0 : 0 ≤ a := Int.le_trans (Int.mul_nonneg hr hr) h2
  have q := sqrtI_spec a h0 h1
  exact sq_unique q.1 hr q.2.1 q.2.2 h2 h3
theorem sqrtI_mono {a b : Int} (h0 : 0 ≤ a) (h : a ≤ b) (h1 : b < 115792089237316195423570985008687907853269984665640564039457584007913129639936) : sqrtI a ≤ sqrtI b := by
  have p := sqrtI_spec a h0 (by omega)
  have q := sqrtI_spec b (by omega) h1
  have := sq_lt_of (r := sqrtI a) (s := sqrtI b + 1) (by omega) (by omega)
  omega
theorem sqrtI_lt {a r : Int} (h0 : 0 ≤ a) (h1 : a < 115792089237316195423570985008687907853269984665640564039457584007913129639936) (hr : 0 ≤ r) (h : a < r * r) : sqrtI a < r := by
  have p := sqrtI_spec a h0 h1
  exact sq_lt_of hr (by omega)
end Go.Ab

namespace Go.Ab
variable {call : CallF}
/-- A loop whose states are known, round for round. -/
theorem loop_run {b : ICode} {tr bx : List Nat} (S : Nat → St) (n : Nat) {r : Option (Ex × St)} (hs : ∀ k, k < n → ∃ σ, evCode call b (S k) = some (.normal, σ) ∧ σ.trim tr bx = S (k + 1)) (he : evCode call b (S n) = r)
    (hr : ∀ σ, r ≠ some (.normal, σ)) : ∀ fuel, n < fuel → loopC call b tr bx fuel (S 0) = r := by
  have main : ∀ m k, k + m = n → ∀ fuel, m < fuel → loopC call b tr bx fuel (S k) = r := by
    intro m
    induction m with
    | zero =>
      intro k hk fuel hf
      obtain ⟨g, rfl⟩ : ∃ g, fuel = g + 1 := ⟨fuel - 1, by omega⟩
      have : k = n := by omega
      subst this
      rw [loopC_step, he]
      cases r with
      | none => rfl
      | some x =>
        obtain ⟨e, σ⟩ := x
        cases e with
        | normal => exact absurd rfl (hr σ)
        | exit i => rfl
        | ret => rfl
    | succ m ih =>
      intro k hk fuel hf
      obtain ⟨g, rfl⟩ : ∃ g, fuel = g + 1 := ⟨fuel - 1, by omega⟩
      obtain ⟨σ, h1, h2⟩ := hs k (by omega)
      rw [loopC_step, h1, nextC_n, h2]
      exact ih (k + 1) (by omega) g (by omega)
  intro fuel hf
  exact main n 0 (by omega) fuel hf
def nextK (K : St → Option (Ex × St)) (tr bx : List Nat) (x : Option (Ex × St)) : Option (Ex × St) :=
  match x with
  | some (.normal, σ) => K (σ.trim tr bx)
  | x => x
theorem nextK_n (K : St → Option (Ex × St)) (tr bx : List Nat) (σ : St) : nextK K tr bx (some (.normal, σ)) = K (σ.trim tr bx) := nr rfl
theorem nextK_e (K : St → Option (Ex × St)) (tr bx : List Nat) (i : Nat) (σ : St) : nextK K tr bx (some (.exit i, σ)) = some (.exit i, σ) := nr rfl
theorem nextK_r (K : St → Option (Ex × St)) (tr bx : List Nat) (σ : St) : nextK K tr bx (some (.ret, σ)) = some (.ret, σ) := nr rfl
theorem loopC_K (b : ICode) (tr bx : List Nat) (n : Nat) (σ : St) : loopC call b tr bx (n + 1) σ = nextK (loopC call b tr bx n) tr bx (evCode call b σ) := nr rfl
/-- A loop by its rounds. -/
theorem loop_k {b : ICode} {tr bx : List Nat} (S : Nat → St) (n : Nat) {r : Option (Ex × St)} (hs : ∀ k, k < n → ∀ K, nextK K tr bx (evCode call b (S k)) = K (S (k + 1))) (he : ∀ K, nextK K tr bx (evCode call b (S n)) = r) :
    ∀ fuel, n < fuel → loopC call b tr bx fuel (S 0) = r := by
  have main : ∀ m k, k + m = n → ∀ fuel, m < fuel → loopC call b tr bx fuel (S k) = r := by
    intro m
    induction m with
    | zero =>
      intro k hk fuel hf
      obtain ⟨g, rfl⟩ : ∃ g, fuel = g + 1 := ⟨fuel - 1, by omega⟩
      have : k = n := by omega
      subst this
      rw [loopC_K, he]
    | succ m ih =>
      intro k hk fuel hf
      obtain ⟨g, rfl⟩ : ∃ g, fuel = g + 1 := ⟨fuel - 1, by omega⟩
      rw [loopC_K, hs k (by omega)]
      exact ih (k + 1) (by omega) g (by omega)
  intro fuel hf
  exact main n 0 (by omega) fuel hf
/-- The number of two words. -/
def fv (h l : Int) : Int := h * 18446744073709551616 + l
/-- Words of a number with a sign. -/
def okF (h l : Int) : Prop := -9223372036854775808 ≤ h ∧ h < 9223372036854775808 ∧ 0 ≤ l ∧ l < 18446744073709551616
/-- Words of a number that may be. -/
def okM (h l : Int) : Prop := -9223372036854775808 ≤ h ∧ h < 9223372036854775808 ∧ 0 ≤ l ∧ l < 18446744073709551616 ∧ -170141183460469231731687303715884105728 < fv h l
theorem okM.f {h l : Int} (k : okM h l) : okF h l := ⟨k.1, k.2.1, k.2.2.1, k.2.2.2.1⟩
/-- A number, if it may be. -/
def fitN (x : Int) : Int := if -170141183460469231731687303715884105728 < x ∧ x < 170141183460469231731687303715884105728 then x else 0
def fitE (x : Int) : Int := if -170141183460469231731687303715884105728 < x ∧ x < 170141183460469231731687303715884105728 then 0 else 3
theorem fitN_may (x : Int) : -170141183460469231731687303715884105728 < fitN x ∧ fitN x < 170141183460469231731687303715884105728 := by unfold fitN; split <;> omega
theorem fv_dm (x : Int) : fv (x / 18446744073709551616) (x % 18446744073709551616) = x := by unfold fv; omega
theorem okM_of {x : Int} (h : -170141183460469231731687303715884105728 < x ∧ x < 170141183460469231731687303715884105728) : okM (x / 18446744073709551616) (x % 18446744073709551616) := by
  unfold okM; rw [fv_dm]; refine ⟨by omega, by omega, by omega, by omega, h.1⟩
theorem okF_of {x : Int} (h : -170141183460469231731687303715884105728 ≤ x ∧ x < 170141183460469231731687303715884105728) : okF (x / 18446744073709551616) (x % 18446744073709551616) := by
  unfold okF; refine ⟨by omega, by omega, by omega, by omega⟩
theorem okM_fit (x : Int) : okM (fitN x / 18446744073709551616) (fitN x % 18446744073709551616) := okM_of (fitN_may x)
theorem okF_fit (x : Int) : okF (fitN x / 18446744073709551616) (fitN x % 18446744073709551616) := (okM_fit x).f
theorem fv_hi {h l : Int} (k : okF h l) : fv h l / 18446744073709551616 = h := by unfold fv; unfold okF at k; omega
theorem fv_lo {h l : Int} (k : okF h l) : fv h l % 18446744073709551616 = l := by unfold fv; unfold okF at k; omega
theorem okF_fv {h l : Int} (k : okF h l) : -170141183460469231731687303715884105728 ≤ fv h l ∧ fv h l < 170141183460469231731687303715884105728 := by unfold fv; unfold okF at k; omega
theorem okM_fv {h l : Int} (k : okM h l) : -170141183460469231731687303715884105728 < fv h l ∧ fv h l < 170141183460469231731687303715884105728 := ⟨k.2.2.2.2, (okF_fv k.f).2⟩
theorem okM_z : okM 0 0 := by unfold okM fv; omega
theorem okF_z : okF 0 0 := okM_z.f
theorem fv_z : fv 0 0 = 0 := rfl
theorem fitN_of {x : Int} (h : fitE x = 0) : fitN x = x := by
  unfold fitE at h; unfold fitN; split at h
  · rename_i q; rw [if_pos q]
  · cases h
theorem fitE_iff {x : Int} : fitE x = 0 ↔ -170141183460469231731687303715884105728 < x ∧ x < 170141183460469231731687303715884105728 := by
  unfold fitE; split <;> simp_all
theorem fitE_or (x : Int) : fitE x = 0 ∨ fitE x = 3 := by unfold fitE; split <;> simp
theorem fitN_err {x : Int} (h : fitE x ≠ 0) : fitN x = 0 ∧ fitE x = 3 := by
  unfold fitE at *; unfold fitN; split <;> simp_all
theorem fit_ok {x : Int} (h : -170141183460469231731687303715884105728 < x ∧ x < 170141183460469231731687303715884105728) : fitN x = x ∧ fitE x = 0 := by
  unfold fitN fitE; simp [h]
end Go.Ab

namespace Go.Ab
def absI (a : Int) : Int := if a < 0 then -a else a
def signI (t : Bool) (n : Int) : Int := if t then -n else n
/-- A product, rounded. -/
def mulI (a b : Int) : Int := signI (!(decide (a < 0) == decide (b < 0))) ((absI a * absI b + 9223372036854775808) / 18446744073709551616)
/-- A quotient, rounded; nought where there is none. -/
def divI (a b : Int) : Int := signI (!(decide (a < 0) == decide (b < 0))) ((absI a * 36893488147419103232 + absI b) / (2 * absI b))
def divE (a b : Int) : Int := if b = 0 then 2 else fitE (divI a b)
def rootI (a : Int) : Int := if a < 0 then 0 else sqrtI (a * 18446744073709551616)
def rootE (a : Int) : Int := if a < 0 then 1 else 0
theorem absI_nonneg (a : Int) : 0 ≤ absI a := by unfold absI; split <;> omega
theorem absI_of {a : Int} (h : 0 ≤ a) : absI a = a := by unfold absI; rw [if_neg (by omega)]
theorem absI_neg (a : Int) : absI (-a) = absI a := by unfold absI; split <;> split <;> omega
theorem absI_lt {a m : Int} (h : -m < a ∧ a < m) : absI a < m := by unfold absI; split <;> omega
theorem absI_le {a m : Int} (h : -m ≤ a ∧ a ≤ m) : absI a ≤ m := by unfold absI; split <;> omega
theorem of_absI_lt {a m : Int} (h : absI a < m) : -m < a ∧ a < m := by unfold absI at h; split at h <;> omega
theorem absI_zero {a : Int} : absI a = 0 ↔ a = 0 := by unfold absI; split <;> omega
theorem signI_abs (a : Int) : signI (decide (a < 0)) (absI a) = a := by unfold signI absI; by_cases h : a < 0 <;> simp [h]
theorem absI_sign (t : Bool) {n : Int} (h : 0 ≤ n) : absI (signI t n) = n := by unfold absI signI; cases t <;> simp <;> omega
theorem signI_zero (t : Bool) : signI t 0 = 0 := by cases t <;> rfl
theorem signI_fit {t : Bool} {n : Int} (h : 0 ≤ n) : fitE (signI t n) = 0 ↔ n < 170141183460469231731687303715884105728 := by
  rw [fitE_iff]; unfold signI; cases t <;> simp <;> omega
theorem div_nonneg' {a b : Int} (ha : 0 ≤ a) (hb : 0 ≤ b) : 0 ≤ a / b := Int.ediv_nonneg ha hb
theorem mulI_nonneg {a b : Int} (ha : 0 ≤ a) (hb : 0 ≤ b) : mulI a b = (a * b + 9223372036854775808) / 18446744073709551616 := by
  unfold mulI signI
  rw [absI_of ha, absI_of hb]
  have h1 : ¬ a < 0 := by omega
  have h2 : ¬ b < 0 := by omega
  simp [h1, h2]
theorem divI_nonneg {a b : Int} (ha : 0 ≤ a) (hb : 0 ≤ b) : divI a b = (a * 36893488147419103232 + b) / (2 * b) := by
  unfold divI signI
  rw [absI_of ha, absI_of hb]
  have h1 : ¬ a < 0 := by omega
  have h2 : ¬ b < 0 := by omega
  simp [h1, h2]
theorem mulI_comm (a b : Int) : mulI a b = mulI b a := by
  unfold mulI
  rw [Int.mul_comm (absI a)]
  by_cases h1 : a < 0 <;> by_cases h2 : b < 0 <;> simp [h1, h2]
theorem mulI_zero (a : Int) : mulI a 0 = 0 := by
  unfold mulI
  have : absI 0 = 0 := rfl
  rw [this, Int.mul_zero]
  exact signI_zero _
theorem zero_mulI (a : Int) : mulI 0 a = 0 := by rw [mulI_comm, mulI_zero]
theorem zero_divI {b : Int} : divI 0 b = 0 := by
  unfold divI
  have h0 : absI 0 = 0 := rfl
  rw [h0, Int.zero_mul, Int.zero_add]
  have hb := absI_nonneg b
  by_cases h : absI b = 0
  · rw [h]; exact signI_zero _
  · rw [Int.ediv_eq_zero_of_lt hb (by omega)]; exact signI_zero _
theorem divI_zero (a : Int) : divI a 0 = 0 := by
  unfold divI
  have h0 : absI 0 = 0 := rfl
  rw [h0]; simp [signI_zero]
/-- By a whole number: exact. -/
theorem mulI_whole {a : Int} (n : Int) (ha : 0 ≤ a) (hn : 0 ≤ n) : mulI (n * 18446744073709551616) a = n * a := by
  rw [mulI_nonneg (by omega) ha]
  have : n * 18446744073709551616 * a = n * a * 18446744073709551616 := by rw [Int.mul_right_comm]
  rw [this]
  generalize n * a = x
  omega
/-- Greater above: greater. -/
theorem divI_mono {a a' b : Int} (ha : 0 ≤ a) (h : a ≤ a') (hb : 0 < b) : divI a b ≤ divI a' b := by
  rw [divI_nonneg ha (by omega), divI_nonneg (by omega) (by omega)]
  exact Int.ediv_le_ediv (by omega) (by omega)
/-- Greater below: less. -/
theorem divI_anti {a b b' : Int} (ha : 0 ≤ a) (hb : 0 < b) (h : b ≤ b') : divI a b' ≤ divI a b := by
  rw [divI_nonneg ha (by omega), divI_nonneg ha (by omega)]
  have hx : 0 ≤ a * 36893488147419103232 := by omega
  generalize a * 36893488147419103232 = x at *
  refine Int.le_ediv_of_mul_le (by omega) ?_
  have h1 := Int.ediv_mul_le (x + b') (show 2 * b' ≠ 0 by omega)
  have hq : 0 ≤ (x + b') / (2 * b') := Int.ediv_nonneg (by omega) (by omega)
  generalize (x + b') / (2 * b') = q at *
  by_cases h0 : q = 0
  · subst h0; omega
  · have h2 : (2 * q - 1) * b ≤ (2 * q - 1) * b' := Int.mul_le_mul_of_nonneg_left h (by omega)
    have e1 : (2 * q - 1) * b = q * (2 * b) - b := by rw [Int.sub_mul, Int.one_mul, Int.mul_comm 2 q, Int.mul_assoc]
    have e2 : (2 * q - 1) * b' = q * (2 * b') - b' := by rw [Int.sub_mul, Int.one_mul, Int.mul_comm 2 q, Int.mul_assoc]
    omega
theorem divI_ge {a b : Int} (ha : 0 ≤ a) (hb : 0 < b) : 0 ≤ divI a b := by
  rw [divI_nonneg ha (by omega)]; exact Int.ediv_nonneg (by omega) (by omega)
theorem mulI_ge {a b : Int} (ha : 0 ≤ a) (hb : 0 ≤ b) : 0 ≤ mulI a b := by
  rw [mulI_nonneg ha hb]; have := Int.mul_nonneg ha hb; omega
end Go.Ab

namespace Go.Ab
/-- A step of a reckoner: its error, its number. -/
def doE (e x : Int) : Int := if e = 0 then fitE x else e
def doN (e x : Int) : Int := if e = 0 then fitN x else 0
def doDE (e a b : Int) : Int := if e = 0 then divE a b else e
def doDN (e a b : Int) : Int := if e = 0 then fitN (divI a b) else 0
def doRE (e a : Int) : Int := if e = 0 then rootE a else e
def doRN (e a : Int) : Int := if e = 0 then rootI a else 0
/-- Two numbers of a way: both, or none. -/
def bothE (x y : Int) : Int := if fitE x = 0 then fitE y else fitE x
def both1 (x y : Int) : Int := if fitE x = 0 ∧ fitE y = 0 then x else 0
theorem both1_may (x y : Int) : -170141183460469231731687303715884105728 < both1 x y ∧ both1 x y < 170141183460469231731687303715884105728 := by
  unfold both1; split
  · rename_i h; exact fitE_iff.1 h.1
  · omega
theorem bothE_zero {x y : Int} : bothE x y = 0 ↔ fitE x = 0 ∧ fitE y = 0 := by
  unfold bothE; split <;> simp_all
theorem bothE_eq (x y : Int) : bothE x y = if fitE x = 0 ∧ fitE y = 0 then 0 else 3 := by
  unfold bothE
  rcases fitE_or x with h | h <;> rcases fitE_or y with h' | h' <;> simp [h, h']
theorem bothE_comm (x y : Int) : bothE x y = bothE y x := by rw [bothE_eq, bothE_eq]; simp only [and_comm]
/-- A way's length, times itself. -/
def len2E (x y : Int) : Int := doE (bothE (mulI x x) (mulI y y)) (both1 (mulI x x) (mulI y y) + both1 (mulI y y) (mulI x x))
def len2N (x y : Int) : Int := doN (bothE (mulI x x) (mulI y y)) (both1 (mulI x x) (mulI y y) + both1 (mulI y y) (mulI x x))
theorem len2E_comm (x y : Int) : len2E x y = len2E y x := by unfold len2E; rw [bothE_comm, Int.add_comm]
theorem len2N_comm (x y : Int) : len2N x y = len2N y x := by unfold len2N; rw [bothE_comm, Int.add_comm]
/-- What is multiplied with the way, and the error. -/
structure Pulled where
  k : Int
  e : Int
def pullK (g a b n e0 eps h : Int) : Pulled :=
  let e1 := doE e0 (mulI eps eps)
  let ee := doN e0 (mulI eps eps)
  let e2 := doE e1 (n + ee)
  let r2 := doN e1 (n + ee)
  let e3 := doRE e2 r2
  let far := doRN e2 r2
  let e4 := doE e3 (mulI a b)
  let m := doN e3 (mulI a b)
  let e5 := doE e4 (mulI g m)
  let m2 := doN e4 (mulI g m)
  let e6 := doE e5 (mulI m2 h)
  let force := doN e5 (mulI m2 h)
  let e7 := doDE e6 force r2
  let q := doDN e6 force r2
  ⟨doDN e7 q far, doDE e7 q far⟩
def pullE (g a b x y eps h : Int) : Int :=
  let p := pullK g a b (len2N x y) (len2E x y) eps h
  if p.e = 0 then bothE (mulI x p.k) (mulI y p.k) else p.e
def pullX (g a b x y eps h : Int) : Int :=
  let p := pullK g a b (len2N x y) (len2E x y) eps h
  if p.e = 0 then both1 (mulI x p.k) (mulI y p.k) else 0
def pullY (g a b x y eps h : Int) : Int :=
  let p := pullK g a b (len2N x y) (len2E x y) eps h
  if p.e = 0 then both1 (mulI y p.k) (mulI x p.k) else 0
theorem pull_swap (g a b x y eps h : Int) : pullE g a b x y eps h = pullE g a b y x eps h ∧ pullX g a b x y eps h = pullY g a b y x eps h := by
  unfold pullE pullX pullY
  rw [len2N_comm x y, len2E_comm x y]
  refine ⟨?_, rfl⟩
  simp only [bothE_comm (mulI x _)]
theorem fit_zero : fitN 0 = 0 ∧ fitE 0 = 0 := fit_ok (by omega)
theorem okM_doN (e x : Int) : okM (doN e x / 18446744073709551616) (doN e x % 18446744073709551616) := by
  unfold doN; split
  · exact okM_fit x
  · exact okM_z
theorem okM_doDN (e a b : Int) : okM (doDN e a b / 18446744073709551616) (doDN e a b % 18446744073709551616) := by
  unfold doDN; split
  · exact okM_fit _
  · exact okM_z
theorem rootI_may (a : Int) (ha : a < 170141183460469231731687303715884105728) : 0 ≤ rootI a ∧ rootI a < 170141183460469231731687303715884105728 := by
  unfold rootI; split
  · omega
  · refine ⟨(sqrtI_spec _ (by omega) (by omega)).1, sqrtI_lt (by omega) (by omega) (by omega) (by omega)⟩
end Go.Ab

namespace Go.Ab
theorem rootI_pos {r : Int} (h : 0 < r) (h' : r < 170141183460469231731687303715884105728) : rootI r = sqrtI (r * 18446744073709551616) ∧ 0 < rootI r := by
  have e : rootI r = sqrtI (r * 18446744073709551616) := by unfold rootI; rw [if_neg (by omega)]
  refine ⟨e, ?_⟩
  have s := sqrtI_spec (r * 18446744073709551616) (by omega) (by omega)
  rw [e]
  by_cases q : sqrtI (r * 18446744073709551616) = 0
  · rw [q] at s; omega
  · omega
def r2I (x y eps : Int) : Int := mulI x x + mulI y y + mulI eps eps
def forceI (g a b h : Int) : Int := mulI (mulI g (mulI a b)) h
def kI (g a b x y eps h : Int) : Int := divI (divI (forceI g a b h) (r2I x y eps)) (rootI (r2I x y eps))
theorem pull_val {g a b x y eps h : Int} (f1 : fitE (mulI x x) = 0) (f2 : fitE (mulI y y) = 0) (f3 : fitE (mulI x x + mulI y y) = 0) (f4 : fitE (mulI eps eps) = 0) (f5 : fitE (r2I x y eps) = 0) (p : 0 < r2I x y eps)
    (f6 : fitE (mulI a b) = 0) (f7 : fitE (mulI g (mulI a b)) = 0) (f8 : fitE (forceI g a b h) = 0) (f9 : fitE (divI (forceI g a b h) (r2I x y eps)) = 0) (f10 : fitE (kI g a b x y eps h) = 0) (f11 : fitE (mulI x (kI g a b x y eps h)) = 0) (f12 : fitE (mulI y (kI g a b x y eps h)) = 0) :
    pullE g a b x y eps h = 0 ∧ pullX g a b x y eps h = mulI x (kI g a b x y eps h) ∧ pullY g a b x y eps h = mulI y (kI g a b x y eps h) := by
  have hl : len2E x y = 0 ∧ len2N x y = mulI x x + mulI y y := by
    unfold len2E len2N doE doN
    have e : bothE (mulI x x) (mulI y y) = 0 := bothE_zero.2 ⟨f1, f2⟩
    have b1 : both1 (mulI x x) (mulI y y) = mulI x x := by unfold both1; rw [if_pos ⟨f1, f2⟩]
    have b2 : both1 (mulI y y) (mulI x x) = mulI y y := by unfold both1; rw [if_pos ⟨f2, f1⟩]
    rw [if_pos e, if_pos e, b1, b2, fitN_of f3]
    exact ⟨f3, rfl⟩
  have hr := rootI_pos p (fitE_iff.1 f5).2
  have hk : (pullK g a b (len2N x y) (len2E x y) eps h).e = 0 ∧ (pullK g a b (len2N x y) (len2E x y) eps h).k = kI g a b x y eps h := by
    rw [hl.1, hl.2]
    have q5 : fitE (mulI x x + mulI y y + mulI eps eps) = 0 := f5
    have q8 : fitE (mulI (mulI g (mulI a b)) h) = 0 := f8
    have q9 : fitE (divI (mulI (mulI g (mulI a b)) h) (mulI x x + mulI y y + mulI eps eps)) = 0 := f9
    have q10 : fitE (divI (divI (mulI (mulI g (mulI a b)) h) (mulI x x + mulI y y + mulI eps eps)) (rootI (mulI x x + mulI y y + mulI eps eps))) = 0 := f10
    have qp : 0 < mulI x x + mulI y y + mulI eps eps := p
    have qr : 0 < rootI (mulI x x + mulI y y + mulI eps eps) := hr.2
    have z1 : ¬ (mulI x x + mulI y y + mulI eps eps < 0) := by omega
    have z2 : ¬ (mulI x x + mulI y y + mulI eps eps = 0) := by omega
    have z3 : ¬ (rootI (mulI x x + mulI y y + mulI eps eps) = 0) := by omega
    simp only [pullK, doE, doN, doDE, doDN, doRE, doRN, divE, rootE, f4, fitN_of f4, q5, fitN_of q5, f6, fitN_of f6, f7, fitN_of f7, q8, fitN_of q8, q9, fitN_of q9, q10, fitN_of q10, z1, z2, z3, if_true, if_false]
    exact ⟨trivial, rfl⟩
  unfold pullE pullX pullY
  simp only [hk.1, hk.2, if_true]
  refine ⟨bothE_zero.2 ⟨f11, f12⟩, ?_, ?_⟩
  · unfold both1; rw [if_pos ⟨f11, f12⟩]
  · unfold both1; rw [if_pos ⟨f12, f11⟩]
theorem fit_of {x : Int} (h : -170141183460469231731687303715884105728 < x) (h' : x < 170141183460469231731687303715884105728) : fitE x = 0 := fitE_iff.2 ⟨h, h'⟩
theorem fit_nn {x : Int} (h : 0 ≤ x) (h' : x < 170141183460469231731687303715884105728) : fitE x = 0 := fitE_iff.2 ⟨by omega, h'⟩
theorem fitE_z : fitE 0 = 0 := fit_zero.2
/-- Without a mass, or a time, nothing. -/
theorem pull_none {g a b x y eps h : Int} (f1 : fitE (mulI x x) = 0) (f2 : fitE (mulI y y) = 0) (f3 : fitE (mulI x x + mulI y y) = 0) (f4 : fitE (mulI eps eps) = 0) (f5 : fitE (r2I x y eps) = 0) (p : 0 < r2I x y eps)
    (f6 : fitE (mulI a b) = 0) (f7 : fitE (mulI g (mulI a b)) = 0) (hf : forceI g a b h = 0) : pullE g a b x y eps h = 0 ∧ pullX g a b x y eps h = 0 ∧ pullY g a b x y eps h = 0 := by
  have hk : kI g a b x y eps h = 0 := by unfold kI; rw [hf, zero_divI, zero_divI]
  have := pull_val (h := h) f1 f2 f3 f4 f5 p f6 f7 (by rw [hf]; exact fitE_z) (by rw [hf, zero_divI]; exact fitE_z) (by rw [hk]; exact fitE_z) (by rw [hk, mulI_zero]; exact fitE_z) (by rw [hk, mulI_zero]; exact fitE_z)
  rw [hk, mulI_zero, mulI_zero] at this
  exact this
theorem fv_whole (n : Int) : fv n 0 = n * 18446744073709551616 := by unfold fv; omega
theorem mul_ww (m n : Int) (hm : 0 ≤ m) (hn : 0 ≤ n) : mulI (fv m 0) (fv n 0) = m * n * 18446744073709551616 := by
  rw [fv_whole, fv_whole, mulI_whole m (by omega) hm]
  rw [Int.mul_assoc]
theorem mul_small {m n a b : Int} (hm : 0 ≤ m) (hm' : m ≤ a) (hn : 0 ≤ n) (hn' : n ≤ b) : 0 ≤ m * n ∧ m * n ≤ a * b := ⟨Int.mul_nonneg hm hn, Int.mul_le_mul hm' hn' hn (by omega)⟩
end Go.Ab

namespace Go.Ab
def pick4 (i : Nat) (a b c d : Int) : Int := if i = 0 then a else if i = 1 then b else if i = 2 then c else d
theorem pow64 (m : Nat) (h : m < 64) : ∃ y : Int, 18446744073709551616 = 2 ^ m * (2 * y) ∧ 0 < y := by
  refine ⟨2 ^ (63 - m), ?_, Int.pow_pos (by decide)⟩
  have e1 : (2 : Int) * 2 ^ (63 - m) = 2 ^ (64 - m) := by
    rw [show 64 - m = (63 - m) + 1 by omega, Int.pow_succ, Int.mul_comm]
  rw [e1, ← Int.pow_add, show m + (64 - m) = 64 by omega]; rfl
/-- The bits of a word are the number's. -/
theorem bit_word (v : Int) (m : Nat) (h : m < 64) : v % 18446744073709551616 / 2 ^ m % 2 = v / 2 ^ m % 2 := by
  obtain ⟨y, hy, hp⟩ := pow64 m h
  have p : (0 : Int) < 2 ^ m := Int.pow_pos (by decide)
  generalize (2 : Int) ^ m = q at *
  have e : v = v % 18446744073709551616 + q * (2 * y * (v / 18446744073709551616)) := by
    have := Int.emod_add_mul_ediv v 18446744073709551616
    rw [← Int.mul_assoc, ← hy]; omega
  conv => rhs; rw [e, Int.add_mul_ediv_left _ _ (by omega), Int.mul_assoc]
  omega
theorem div_pow_add (A : Int) (a b : Nat) : A / 2 ^ (a + b) = A / 2 ^ a / 2 ^ b := by
  rw [Int.pow_add, Int.ediv_ediv_of_nonneg (by exact Int.le_of_lt (Int.pow_pos (by decide)))]
theorem pick_bit (A : Int) (i m n : Nat) (hi : i < 4) (hm : m < 64) (hn : n = 64 * i + m) (hA : A < 115792089237316195423570985008687907853269984665640564039457584007913129639936) (h0 : 0 ≤ A) :
    pick4 i (A % 18446744073709551616) (A / 18446744073709551616 % 18446744073709551616) (A / 340282366920938463463374607431768211456 % 18446744073709551616) (A / 6277101735386680763835789423207666416102355444464034512896) / 2 ^ m % 2 = A / 2 ^ n % 2 := by
  subst hn
  have e4 : A / 6277101735386680763835789423207666416102355444464034512896 = A / 6277101735386680763835789423207666416102355444464034512896 % 18446744073709551616 := by omega
  rw [e4, div_pow_add A (64 * i) m]
  match i, hi with
  | 0, _ => rw [show A / 2 ^ (64 * 0) = A by simp]; exact bit_word A m hm
  | 1, _ => exact bit_word _ m hm
  | 2, _ => exact bit_word _ m hm
  | 3, _ => exact bit_word _ m hm
/-- A bit more of a number whose lower bits are nought. -/
theorem word_or (w : Int) (m : Nat) (hm : m < 64) (h0 : 0 ≤ w) (hw : w < 18446744073709551616) (hd : w % 2 ^ (m + 1) = 0) : orI w (2 ^ m) = w + 2 ^ m ∧ w + 2 ^ m < 18446744073709551616 := by
  have p : (0 : Int) < 2 ^ m := Int.pow_pos (by decide)
  have e : (2 : Int) ^ (m + 1) = 2 ^ m * 2 := Int.pow_succ ..
  refine ⟨orI_add w (2 ^ m) (m + 1) h0 (by omega) (by rw [e]; omega) hd, ?_⟩
  obtain ⟨y, hy, hp⟩ := pow64 m hm
  rw [e] at hd
  generalize (2 : Int) ^ m = q at *
  have hz := Int.emod_add_mul_ediv w (q * 2)
  rw [hd] at hz
  generalize w / (q * 2) = z at hz
  have e2 : q * (2 * y) = q * 2 * y := by rw [Int.mul_assoc]
  rw [e2] at hy
  have hlt : z < y := by
    by_cases h : z < y
    · exact h
    · have := Int.mul_le_mul_of_nonneg_left (show y ≤ z by omega) (show 0 ≤ q * 2 by omega)
      omega
  have := Int.mul_le_mul_of_nonneg_left (show z + 1 ≤ y by omega) (show 0 ≤ q * 2 by omega)
  rw [Int.mul_add, Int.mul_one] at this
  omega
theorem low_zero (Q : Int) (i m : Nat) (h : Q % 2 ^ (64 * i + m + 1) = 0) : Q % 2 ^ (64 * i) = 0 ∧ Q / 2 ^ (64 * i) % 2 ^ (m + 1) = 0 := by
  rw [show 64 * i + m + 1 = 64 * i + (m + 1) by omega, Int.pow_add] at h
  have p : (0 : Int) < 2 ^ (64 * i) := Int.pow_pos (by decide)
  generalize (2 : Int) ^ (64 * i) = q at *
  have hz := Int.emod_add_mul_ediv Q (q * 2 ^ (m + 1))
  rw [h] at hz
  generalize Q / (q * 2 ^ (m + 1)) = z at hz
  have e : Q = q * (2 ^ (m + 1) * z) := by rw [← Int.mul_assoc]; omega
  rw [e]
  exact ⟨Int.mul_emod_right .., by rw [Int.mul_ediv_cancel_left _ (by omega)]; exact Int.mul_emod_right ..⟩
theorem mod_mod_zero (v : Int) (m : Nat) (hm : m < 64) (h : v % 2 ^ (m + 1) = 0) : v % 18446744073709551616 % 2 ^ (m + 1) = 0 := by
  obtain ⟨y, hy, hp⟩ := pow64 m hm
  have e : (2 : Int) ^ (m + 1) = 2 ^ m * 2 := Int.pow_succ ..
  have d : (2 : Int) ^ (m + 1) ∣ 18446744073709551616 := ⟨y, by rw [e, Int.mul_assoc]; exact hy⟩
  rw [Int.emod_emod_of_dvd _ d]; exact h
theorem set_bit (Q : Int) (i m n : Nat) (hi : i < 4) (hm : m < 64) (hn : n = 64 * i + m) (h0 : 0 ≤ Q) (hQ : Q < 115792089237316195423570985008687907853269984665640564039457584007913129639936) (hd : Q % 2 ^ (n + 1) = 0) (x : Int)
    (hx : x = orI (pick4 i (Q % 18446744073709551616) (Q / 18446744073709551616 % 18446744073709551616) (Q / 340282366920938463463374607431768211456 % 18446744073709551616) (Q / 6277101735386680763835789423207666416102355444464034512896) % 18446744073709551616) (2 ^ m % 18446744073709551616)) :
    (if i = 0 then x else Q % 18446744073709551616) = (Q + 2 ^ n) % 18446744073709551616 ∧ (if i = 1 then x else Q / 18446744073709551616 % 18446744073709551616) = (Q + 2 ^ n) / 18446744073709551616 % 18446744073709551616 ∧
    (if i = 2 then x else Q / 340282366920938463463374607431768211456 % 18446744073709551616) = (Q + 2 ^ n) / 340282366920938463463374607431768211456 % 18446744073709551616 ∧ (if i = 3 then x else Q / 6277101735386680763835789423207666416102355444464034512896) = (Q + 2 ^ n) / 6277101735386680763835789423207666416102355444464034512896 ∧
    Q + 2 ^ n < 115792089237316195423570985008687907853269984665640564039457584007913129639936 := by
  subst hn
  have hp : (2 : Int) ^ m % 18446744073709551616 = 2 ^ m := by
    have p : (0 : Int) < 2 ^ m := Int.pow_pos (by decide)
    obtain ⟨y, hy, hp⟩ := pow64 m hm
    have := Int.mul_le_mul_of_nonneg_left (show (1 : Int) ≤ y by omega) (show (0 : Int) ≤ 2 ^ m * 2 by omega)
    rw [← Int.mul_assoc] at hy
    rw [Int.mul_one] at this
    exact Int.emod_eq_of_lt (by omega) (by omega)
  rw [hp] at hx
  have hl := low_zero Q i m hd
  have p : (0 : Int) < 2 ^ m := Int.pow_pos (by decide)
  have e4 : Q / 6277101735386680763835789423207666416102355444464034512896 = Q / 6277101735386680763835789423207666416102355444464034512896 % 18446744073709551616 := by omega
  rw [Int.pow_add]
  match i, hi with
  | 0, _ =>
    have w := word_or (Q % 18446744073709551616) m hm (by omega) (by omega) (mod_mod_zero _ m hm (by simpa using hl.2))
    rw [show pick4 0 (Q % 18446744073709551616) (Q / 18446744073709551616 % 18446744073709551616) (Q / 340282366920938463463374607431768211456 % 18446744073709551616) (Q / 6277101735386680763835789423207666416102355444464034512896) % 18446744073709551616 = Q % 18446744073709551616 by simp [pick4], w.1] at hx
    have w2 := w.2
    clear w hl hd
    generalize (2 : Int) ^ m = q at *
    simp; omega
  | 1, _ =>
    have w := word_or (Q / 18446744073709551616 % 18446744073709551616) m hm (by omega) (by omega) (mod_mod_zero _ m hm hl.2)
    rw [show pick4 1 (Q % 18446744073709551616) (Q / 18446744073709551616 % 18446744073709551616) (Q / 340282366920938463463374607431768211456 % 18446744073709551616) (Q / 6277101735386680763835789423207666416102355444464034512896) % 18446744073709551616 = Q / 18446744073709551616 % 18446744073709551616 by simp [pick4], w.1] at hx
    have w2 := w.2
    have h1 : Q % 18446744073709551616 = 0 := hl.1
    clear w hl hd
    rw [show (2 : Int) ^ (64 * 1) = 18446744073709551616 from rfl]
    generalize (2 : Int) ^ m = q at *
    simp; omega
  | 2, _ =>
    have w := word_or (Q / 340282366920938463463374607431768211456 % 18446744073709551616) m hm (by omega) (by omega) (mod_mod_zero _ m hm hl.2)
    rw [show pick4 2 (Q % 18446744073709551616) (Q / 18446744073709551616 % 18446744073709551616) (Q / 340282366920938463463374607431768211456 % 18446744073709551616) (Q / 6277101735386680763835789423207666416102355444464034512896) % 18446744073709551616 = Q / 340282366920938463463374607431768211456 % 18446744073709551616 by simp [pick4], w.1] at hx
    have w2 := w.2
    have h1 : Q % 340282366920938463463374607431768211456 = 0 := hl.1
    clear w hl hd
    rw [show (2 : Int) ^ (64 * 2) = 340282366920938463463374607431768211456 from rfl]
    generalize (2 : Int) ^ m = q at *
    simp; omega
  | 3, _ =>
    have w := word_or (Q / 6277101735386680763835789423207666416102355444464034512896 % 18446744073709551616) m hm (by omega) (by omega) (mod_mod_zero _ m hm hl.2)
    rw [show pick4 3 (Q % 18446744073709551616) (Q / 18446744073709551616 % 18446744073709551616) (Q / 340282366920938463463374607431768211456 % 18446744073709551616) (Q / 6277101735386680763835789423207666416102355444464034512896) % 18446744073709551616 = Q / 6277101735386680763835789423207666416102355444464034512896 % 18446744073709551616 by simp [pick4], w.1] at hx
    have w2 := w.2
    have h1 : Q % 6277101735386680763835789423207666416102355444464034512896 = 0 := hl.1
    clear w hl hd
    rw [show (2 : Int) ^ (64 * 3) = 6277101735386680763835789423207666416102355444464034512896 from rfl]
    generalize (2 : Int) ^ m = q at *
    simp; omega
/-- One round of a long division, on words. -/
theorem div_words (r b t : Int) (hr : 0 ≤ r) (hrb : r < b) (hb : b < 340282366920938463463374607431768211456) (ht : 0 ≤ t ∧ t ≤ 1) :
    orI (r / 18446744073709551616 * 2 % 18446744073709551616) (r % 18446744073709551616 / 9223372036854775808 % 18446744073709551616) = (2 * r + t) % 340282366920938463463374607431768211456 / 18446744073709551616 ∧
    orI (r % 18446744073709551616 * 2 % 18446744073709551616) (t % 18446744073709551616) = (2 * r + t) % 340282366920938463463374607431768211456 % 18446744073709551616 := by
  constructor
  · rw [orI_add _ _ 1 (by omega) (by omega) (by omega) (by omega)]; omega
  · rw [orI_add _ _ 1 (by omega) (by omega) (by omega) (by omega)]; omega
end Go.Ab

namespace Go.Ab
/-- What is known of a root behind so many rounds. -/
def rootV (A : Int) (n0 : Nat) : Nat → Int
  | 0 => 0
  | k + 1 => if (rootV A n0 k + 2 ^ (n0 - 1 - k)) * (rootV A n0 k + 2 ^ (n0 - 1 - k)) ≤ A then rootV A n0 k + 2 ^ (n0 - 1 - k) else rootV A n0 k
theorem rootV_go (A : Int) (n0 : Nat) : ∀ k, k ≤ n0 → sqrtGo (n0 - k) A (rootV A n0 k) = sqrtGo n0 A 0
  | 0, _ => rfl
  | k + 1, h => by
    have ih := rootV_go A n0 k (by omega)
    rw [show n0 - k = (n0 - (k + 1)) + 1 by omega] at ih
    simp only [sqrtGo] at ih
    rw [rootV, show n0 - 1 - k = n0 - (k + 1) by omega]
    split
    · rename_i h1; rw [if_pos h1] at ih; exact ih
    · rename_i h1; rw [if_neg h1] at ih; exact ih
theorem pow_mod_pow (a b : Nat) (h : a ≤ b) : (2 : Int) ^ b % 2 ^ a = 0 := by
  rw [show b = a + (b - a) by omega, Int.pow_add]; exact Int.mul_emod_right ..
theorem pow_mono2 {a b : Nat} (h : a ≤ b) : (2 : Int) ^ a ≤ 2 ^ b := by
  rw [show b = a + (b - a) by omega, Int.pow_add]
  have p : (0 : Int) < 2 ^ a := Int.pow_pos (by decide)
  have q : (0 : Int) < 2 ^ (b - a) := Int.pow_pos (by decide)
  have := Int.mul_le_mul_of_nonneg_left (show (1 : Int) ≤ 2 ^ (b - a) by omega) (show (0 : Int) ≤ 2 ^ a by omega)
  omega
theorem rootV_inv (A : Int) (n0 : Nat) (hA : 0 ≤ A) : ∀ k, k ≤ n0 → 0 ≤ rootV A n0 k ∧ rootV A n0 k * rootV A n0 k ≤ A ∧ rootV A n0 k % 2 ^ (n0 - k) = 0
  | 0, _ => by simp [rootV, hA]
  | k + 1, h => by
    have ih := rootV_inv A n0 hA k (by omega)
    have hd : rootV A n0 k % 2 ^ (n0 - (k + 1)) = 0 := by
      have d : (2 : Int) ^ (n0 - (k + 1)) ∣ 2 ^ (n0 - k) := ⟨2, by rw [← Int.pow_succ]; congr 1; omega⟩
      rw [← Int.emod_emod_of_dvd (rootV A n0 k) d, ih.2.2]; simp
    have p : (0 : Int) < 2 ^ (n0 - 1 - k) := Int.pow_pos (by decide)
    rw [rootV]
    split
    · rename_i h1
      refine ⟨by omega, h1, ?_⟩
      rw [Int.add_emod, hd, show n0 - 1 - k = n0 - (k + 1) by omega]; simp
    · exact ⟨ih.1, ih.2.1, hd⟩
theorem rootV_lt (A : Int) (n0 : Nat) (hA : 0 ≤ A) (hA' : A < 115792089237316195423570985008687907853269984665640564039457584007913129639936) {k : Nat} (h : k ≤ n0) : rootV A n0 k < 340282366920938463463374607431768211456 :=
  sq_lt_of (by omega) (by have := rootV_inv A n0 hA k h; omega)
/-- The bit of a number of two words. -/
theorem set_bit2 (Q : Int) (n : Nat) (hn : n < 128) (h0 : 0 ≤ Q) (hQ : Q < 340282366920938463463374607431768211456) (hd : Q % 2 ^ (n + 1) = 0) :
    (n < 64 → orI (Q % 18446744073709551616) (2 ^ n % 18446744073709551616) = (Q + 2 ^ n) % 18446744073709551616 ∧ Q / 18446744073709551616 = (Q + 2 ^ n) / 18446744073709551616) ∧
    (64 ≤ n → Q % 18446744073709551616 = (Q + 2 ^ n) % 18446744073709551616 ∧ orI (Q / 18446744073709551616 % 18446744073709551616) (2 ^ (n - 64) % 18446744073709551616) = (Q + 2 ^ n) / 18446744073709551616) ∧ Q + 2 ^ n < 340282366920938463463374607431768211456 := by
  have s := set_bit Q (n / 64) (n % 64) n (by omega) (by omega) (by omega) h0 (by omega) hd _ rfl
  have p : (0 : Int) < 2 ^ n := Int.pow_pos (by decide)
  obtain ⟨s0, s1, s2, s3, s4⟩ := s
  have i2 : n / 64 ≠ 2 := by omega
  have i3 : n / 64 ≠ 3 := by omega
  rw [if_neg i2] at s2
  rw [if_neg i3] at s3
  have hlt : Q + 2 ^ n < 340282366920938463463374607431768211456 := by
    clear s0 s1
    generalize (2 : Int) ^ n = q at *
    omega
  by_cases h : n < 64
  · have e0 : n / 64 = 0 := by omega
    have e1 : n % 64 = n := by omega
    rw [e0, e1] at s0
    rw [e0] at s1
    rw [if_pos rfl] at s0
    rw [if_neg (by omega)] at s1
    have e : pick4 0 (Q % 18446744073709551616) (Q / 18446744073709551616 % 18446744073709551616) (Q / 340282366920938463463374607431768211456 % 18446744073709551616) (Q / 6277101735386680763835789423207666416102355444464034512896) % 18446744073709551616 = Q % 18446744073709551616 := by simp [pick4]
    rw [e] at s0
    refine ⟨fun _ => ⟨s0, ?_⟩, fun h' => by omega, hlt⟩
    clear s0
    generalize (2 : Int) ^ n = q at *
    omega
  · have e0 : n / 64 = 1 := by omega
    have e1 : n % 64 = n - 64 := by omega
    rw [e0] at s0
    rw [e0, e1] at s1
    rw [if_pos rfl] at s1
    rw [if_neg (by omega)] at s0
    have e : pick4 1 (Q % 18446744073709551616) (Q / 18446744073709551616 % 18446744073709551616) (Q / 340282366920938463463374607431768211456 % 18446744073709551616) (Q / 6277101735386680763835789423207666416102355444464034512896) % 18446744073709551616 = Q / 18446744073709551616 % 18446744073709551616 := by simp [pick4]
    rw [e] at s1
    refine ⟨fun h' => by omega, fun _ => ⟨s0, ?_⟩, hlt⟩
    rw [s1]
    clear s1 s0
    generalize (2 : Int) ^ n = q at *
    omega
end Go.Ab

/- For every input: what any tether does between any bodies that may be, or the error, is the document's: TetherAll returns true, and each argument reads as it did.
No condition: for every input. -/
import Derived.Test.YthknbnhchgbikaaRows
import Derived.Test.YthknbnhchgbikaaQFy
import Derived.Test.YthknbnhchgbikaaQChk
import Derived.WalkKit
import Derived.ProofKit
set_option linter.all false
namespace Go.Ab
def tetherAll_pars : List Par := [(true, [.int .i64, .int .i64, .int .i64, .int .u64, .int .i64, .int .u64]), (true, [.int .i64, .int .u64, .int .i64, .int .u64, .int .i64, .int .u64, .int .i64, .int .u64, .int .i64, .int .u64, .int .i64, .int .u64, .int .i64, .int .u64, .int .i64, .int .u64, .int .i64, .int .u64, .int .i64, .int .i64]), (true, [.int .i64, .int .u64, .int .i64, .int .u64, .int .i64, .int .u64, .int .i64, .int .u64, .int .i64, .int .u64, .int .i64, .int .u64, .int .i64, .int .u64, .int .i64, .int .u64, .int .i64, .int .u64, .int .i64, .int .i64])]
theorem tetherAll_pure : ∀ args out, wfArgs tetherAll_pars args 0 out → ∃ os news, evFun T 12 13 args out = some (.c (.bool true), os, news) := by
  intro args out h
  exact tall_pure args out h
end Go.Ab
namespace Go.Proofs.Ythknbnhchgbikaa.tetherAll
open Go.Ab
theorem own : ownKnob Try.prog.godebug = none := by kernel_rfl
theorem laidOut : laidOutB Try.prog = true := by kernel_rfl
theorem params : parsOf Try.prog Try.f13.params.toList = some tetherAll_pars := by kernel_rfl
set_option maxRecDepth 100000 in
theorem lifted (os : Os) (started : os.Started) (H : Type) (enc : TypeId × Value → H) :
    ReturnsInHanded {} Try.checked os 13 .any (Rows.tetherAllSpec.pre6 enc Try.prog Try.f13 Rows.tetherAllRow.domain false) (Rows.tetherAllSpec.post enc Try.prog Try.f13 false true false false) :=
  law_lift (C := Try.checked) own started (by kernel_rfl) Try.func13
    (ChangeSpec.witness6 (enc := enc) (C := Try.checked) false ⟨#[], #[.agg #[(.int .i64 0), (.int .i64 0), (.int .i64 0), (.int .u64 0), (.int .i64 0), (.int .u64 0)], .agg #[(.int .i64 0), (.int .u64 0), (.int .i64 0), (.int .u64 0), (.int .i64 0), (.int .u64 0), (.int .i64 0), (.int .u64 0), (.int .i64 0), (.int .u64 0), (.int .i64 0), (.int .u64 0), (.int .i64 0), (.int .u64 0), (.int .i64 0), (.int .u64 0), (.int .i64 0), (.int .u64 0), (.int .i64 0), (.int .i64 0)], .agg #[(.int .i64 0), (.int .u64 0), (.int .i64 0), (.int .u64 0), (.int .i64 0), (.int .u64 0), (.int .i64 0), (.int .u64 0), (.int .i64 0), (.int .u64 0), (.int .i64 0), (.int .u64 0), (.int .i64 0), (.int .u64 0), (.int .i64 0), (.int .u64 0), (.int .i64 0), (.int .u64 0), (.int .i64 0), (.int .i64 0)]], []⟩ 8 (by kernel_rfl) (by kernel_rfl) (by kernel_rfl) (by kernel_rfl))
    params (sound 12) tetherAll_pure laidOut (by kernel_rfl) rfl rfl Try.underlying4
    (fun ds h => by match ds, h with | [d1, d2, d3], _ => rfl)
theorem over : Rows.tetherAllRow.holds Try.pinned (OpenSpec.ofChange Rows.tetherAllSpec) :=
  OpenClaim.holds_of_wide 13 Try.f13 rfl rfl rfl rfl rfl rfl rfl ⟨rfl, rfl, rfl, rfl, rfl⟩ rfl rfl rfl rfl rfl (by kernel_rfl) Try.func13 (by kernel_rfl)
    (of_decide_eq_true (by kernel_rfl)) (by unfold Func.isWrapper; first | (rw [if_pos (by decide +kernel)]; kernel_rfl) | (rw [if_neg (by decide +kernel)]; exact ⟨rfl, rfl⟩))
    (fun os started H enc _ => lifted os started H enc)
theorem proved : Rows.TetherAllSaid := over
end Go.Proofs.Ythknbnhchgbikaa.tetherAll
namespace Go.Proofs.Ythknbnhchgbikaa
theorem tetherAll_holds : Rows.TetherAllSaid := tetherAll.proved
end Go.Proofs.Ythknbnhchgbikaa

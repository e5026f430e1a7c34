/- For every input: on a line two that part beyond its length go on as one, but for roundings; within its length, or coming near, nothing is done; above its limit it breaks: TetherLine returns true, and each argument reads as it did.
No condition: for every input. -/
import Derived.Test.YthknbnhchgbikaaRows
import Derived.Test.YthknbnhchgbikaaQFv
import Derived.Test.YthknbnhchgbikaaQChk
import Derived.WalkKit
import Derived.ProofKit
set_option linter.all false
namespace Go.Ab
def tetherLine_pars : List Par := [(false, [.int .u8]), (false, [.int .u16])]
theorem tetherLine_pure : ∀ args out, wfArgs tetherLine_pars args 0 out → ∃ os news, evFun T 12 14 args out = some (.c (.bool true), os, news) := by
  intro args out h
  obtain ⟨v, r, rfl, hv, h⟩ := wfA_int h
  obtain ⟨l, r, rfl, hl, h⟩ := wfA_int h
  obtain ⟨rfl, rfl⟩ := wfA_nil h
  exact ⟨_, _, line_ev 0 v l (inK_u8 hv) (inK_u16 hl)⟩
end Go.Ab
namespace Go.Proofs.Ythknbnhchgbikaa.tetherLine
open Go.Ab
theorem own : ownKnob Try.prog.godebug = none := by kernel_rfl
theorem laidOut : laidOutB Try.prog = true := by kernel_rfl
theorem params : parsOf Try.prog Try.f14.params.toList = some tetherLine_pars := by kernel_rfl
set_option maxRecDepth 100000 in
theorem lifted (os : Os) (started : os.Started) (H : Type) (enc : TypeId × Value → H) :
    ReturnsInHanded {} Try.checked os 14 .any (Rows.tetherLineSpec.pre6 enc Try.prog Try.f14 Rows.tetherLineRow.domain false) (Rows.tetherLineSpec.post enc Try.prog Try.f14 false true false false) :=
  law_lift (C := Try.checked) own started (by kernel_rfl) Try.func14
    (ChangeSpec.witness6 (enc := enc) (C := Try.checked) false ⟨#[], #[.int .u8 0, .int .u16 0], []⟩ 8 (by kernel_rfl) (by kernel_rfl) (by kernel_rfl) (by kernel_rfl))
    params (sound 12) tetherLine_pure laidOut (by kernel_rfl) rfl rfl Try.underlying4
    (fun ds h => by match ds, h with | [d1, d2], _ => rfl)
theorem over : Rows.tetherLineRow.holds Try.pinned (OpenSpec.ofChange Rows.tetherLineSpec) :=
  OpenClaim.holds_of_wide 14 Try.f14 rfl rfl rfl rfl rfl rfl rfl ⟨rfl, rfl, rfl, rfl, rfl⟩ rfl rfl rfl rfl rfl (by kernel_rfl) Try.func14 (by kernel_rfl)
    (of_decide_eq_true (by kernel_rfl)) (by unfold Func.isWrapper; first | (rw [if_pos (by decide +kernel)]; kernel_rfl) | (rw [if_neg (by decide +kernel)]; exact ⟨rfl, rfl⟩))
    (fun os started H enc _ => lifted os started H enc)
theorem proved : Rows.TetherLineSaid := over
end Go.Proofs.Ythknbnhchgbikaa.tetherLine
namespace Go.Proofs.Ythknbnhchgbikaa
theorem tetherLine_holds : Rows.TetherLineSaid := tetherLine.proved
end Go.Proofs.Ythknbnhchgbikaa

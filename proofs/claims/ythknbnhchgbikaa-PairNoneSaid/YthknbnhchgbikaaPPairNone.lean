/- For every input: without masses, or time, nothing is got, where there is a distance; of a place where both are it is nought with Eps: PairNone returns true, and each argument reads as it did.
No condition: for every input. -/
import Derived.Test.YthknbnhchgbikaaRows
import Derived.Test.YthknbnhchgbikaaPFg
import Derived.Test.YthknbnhchgbikaaPChk
import Derived.WalkKit
import Derived.ProofKit
set_option linter.all false
namespace Go.Ab
def pairNone_pars : List Par := [(false, [.int .u16]), (false, [.int .u16]), (false, [.int .u16]), (false, [.int .u8])]
theorem pairNone_pure : ∀ args out, wfArgs pairNone_pars args 0 out → ∃ os news, evFun T 11 3 args out = some (.c (.bool true), os, news) := by
  intro args out h
  obtain ⟨a, r, rfl, ha, h⟩ := wfA_int h
  obtain ⟨b, r, rfl, hb, h⟩ := wfA_int h
  obtain ⟨d, r, rfl, hd, h⟩ := wfA_int h
  obtain ⟨w, r, rfl, hw, h⟩ := wfA_int h
  obtain ⟨rfl, rfl⟩ := wfA_nil h
  exact ⟨_, _, none_ev 0 a b d w (inK_u16 ha) (inK_u16 hb) (inK_u16 hd) (inK_u8 hw).1⟩
end Go.Ab
namespace Go.Proofs.Ythknbnhchgbikaa.pairNone
open Go.Ab
theorem own : ownKnob Try.prog.godebug = none := by kernel_rfl
theorem laidOut : laidOutB Try.prog = true := by kernel_rfl
theorem params : parsOf Try.prog Try.f3.params.toList = some pairNone_pars := by kernel_rfl
set_option maxRecDepth 100000 in
theorem lifted (os : Os) (started : os.Started) (H : Type) (enc : TypeId × Value → H) :
    ReturnsInHanded {} Try.checked os 3 .any (Rows.pairNoneSpec.pre6 enc Try.prog Try.f3 Rows.pairNoneRow.domain false) (Rows.pairNoneSpec.post enc Try.prog Try.f3 false true false false) :=
  law_lift (C := Try.checked) own started (by kernel_rfl) Try.func3
    (ChangeSpec.witness6 (enc := enc) (C := Try.checked) false ⟨#[], #[.int .u16 0, .int .u16 0, .int .u16 0, .int .u8 0], []⟩ 8 (by kernel_rfl) (by kernel_rfl) (by kernel_rfl) (by kernel_rfl))
    params (sound 11) pairNone_pure laidOut (by kernel_rfl) rfl rfl Try.underlying4
    (fun ds h => by match ds, h with | [d1, d2, d3, d4], _ => rfl)
theorem over : Rows.pairNoneRow.holds Try.pinned (OpenSpec.ofChange Rows.pairNoneSpec) :=
  OpenClaim.holds_of_wide 3 Try.f3 rfl rfl rfl rfl rfl rfl rfl ⟨rfl, rfl, rfl, rfl, rfl⟩ rfl rfl rfl rfl rfl (by kernel_rfl) Try.func3 (by kernel_rfl)
    (of_decide_eq_true (by kernel_rfl)) (by unfold Func.isWrapper; first | (rw [if_pos (by decide +kernel)]; kernel_rfl) | (rw [if_neg (by decide +kernel)]; exact ⟨rfl, rfl⟩))
    (fun os started H enc _ => lifted os started H enc)
theorem proved : Rows.PairNoneSaid := over
end Go.Proofs.Ythknbnhchgbikaa.pairNone
namespace Go.Proofs.Ythknbnhchgbikaa
theorem pairNone_holds : Rows.PairNoneSaid := pairNone.proved
end Go.Proofs.Ythknbnhchgbikaa

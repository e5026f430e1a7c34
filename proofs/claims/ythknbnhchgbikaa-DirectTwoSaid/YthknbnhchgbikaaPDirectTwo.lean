/- For every input: of two bodies each gets what the pair says, the one as the other turned about: DirectTwo returns true, and each argument reads as it did.
No condition: for every input. -/
import Derived.Test.YthknbnhchgbikaaRows
import Derived.Test.YthknbnhchgbikaaPFr
import Derived.Test.YthknbnhchgbikaaPChk
import Derived.WalkKit
import Derived.ProofKit
set_option linter.all false
namespace Go.Ab
def directTwo_pars : List Par := [(false, [.slc 58 5 1 [.int .u8]]), (false, [.int .u8]), (false, [.int .u64])]
theorem directTwo_pure : ∀ args out, wfArgs directTwo_pars args 0 out → ∃ os news, evFun T 13 10 args out = some (.c (.bool true), os, news) := by
  intro args out h
  obtain ⟨ns, r, bs, rfl, rfl, hl, hns, h⟩ := wfA_bytes h
  obtain ⟨w, r, rfl, hw, h⟩ := wfA_int h
  obtain ⟨t, r, rfl, ht, h⟩ := wfA_int h
  obtain ⟨rfl, rfl⟩ := wfA_nil h
  exact ⟨_, _, two_ev 0 ns w t hns (inK_u8 hw) (inK_u64 ht)⟩
end Go.Ab
namespace Go.Proofs.Ythknbnhchgbikaa.directTwo
open Go.Ab
theorem own : ownKnob Try.prog.godebug = none := by kernel_rfl
theorem laidOut : laidOutB Try.prog = true := by kernel_rfl
theorem params : parsOf Try.prog Try.f10.params.toList = some directTwo_pars := by kernel_rfl
set_option maxRecDepth 100000 in
theorem lifted (os : Os) (started : os.Started) (H : Type) (enc : TypeId × Value → H) :
    ReturnsInHanded {} Try.checked os 10 .any (Rows.directTwoSpec.pre6 enc Try.prog Try.f10 Rows.directTwoRow.domain false) (Rows.directTwoSpec.post enc Try.prog Try.f10 false true false false) :=
  law_lift (C := Try.checked) own started (by kernel_rfl) Try.func10
    (ChangeSpec.witness6 (enc := enc) (C := Try.checked) false ⟨#[], #[.slice none 0 0, .int .u8 0, .int .u64 0], []⟩ 8 (by kernel_rfl) (by kernel_rfl) (by kernel_rfl) (by kernel_rfl))
    params (sound 13) directTwo_pure laidOut (by kernel_rfl) rfl rfl Try.underlying4
    (fun ds h => by match ds, h with | [d1, d2, d3], _ => rfl)
theorem over : Rows.directTwoRow.holds Try.pinned (OpenSpec.ofChange Rows.directTwoSpec) :=
  OpenClaim.holds_of_wide 10 Try.f10 rfl rfl rfl rfl rfl rfl rfl ⟨rfl, rfl, rfl, rfl, rfl⟩ rfl rfl rfl rfl rfl (by kernel_rfl) Try.func10 (by kernel_rfl)
    (of_decide_eq_true (by kernel_rfl)) (by unfold Func.isWrapper; first | (rw [if_pos (by decide +kernel)]; kernel_rfl) | (rw [if_neg (by decide +kernel)]; exact ⟨rfl, rfl⟩))
    (fun os started H enc _ => lifted os started H enc)
theorem proved : Rows.DirectTwoSaid := over
end Go.Proofs.Ythknbnhchgbikaa.directTwo
namespace Go.Proofs.Ythknbnhchgbikaa
theorem directTwo_holds : Rows.DirectTwoSaid := directTwo.proved
end Go.Proofs.Ythknbnhchgbikaa

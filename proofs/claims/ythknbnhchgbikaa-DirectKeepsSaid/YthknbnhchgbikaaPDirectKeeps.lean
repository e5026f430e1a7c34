/- For every input: all momenta together are as they were, to the last bit, and with the time turned about each is pulled back: DirectKeeps returns true, and each argument reads as it did.
No condition: for every input. -/
import Derived.Test.YthknbnhchgbikaaRows
import Derived.Test.YthknbnhchgbikaaPFs
import Derived.Test.YthknbnhchgbikaaPChk
import Derived.WalkKit
import Derived.ProofKit
set_option linter.all false
namespace Go.Ab
def directKeeps_pars : List Par := [(false, [.slc 58 5 1 [.int .u8]]), (false, [.int .u8]), (false, [.int .u64])]
theorem directKeeps_pure : ∀ args out, wfArgs directKeeps_pars args 0 out → ∃ os news, evFun T 13 8 args out = some (.c (.bool true), os, news) := by
  intro args out h
  obtain ⟨ns, r, bs, rfl, rfl, hl, hns, h⟩ := wfA_bytes h
  obtain ⟨w, r, rfl, hw, h⟩ := wfA_int h
  obtain ⟨t, r, rfl, ht, h⟩ := wfA_int h
  obtain ⟨rfl, rfl⟩ := wfA_nil h
  exact ⟨_, _, keeps_ev 0 ns w t hns (inK_u8 hw) (inK_u64 ht)⟩
end Go.Ab
namespace Go.Proofs.Ythknbnhchgbikaa.directKeeps
open Go.Ab
theorem own : ownKnob Try.prog.godebug = none := by kernel_rfl
theorem laidOut : laidOutB Try.prog = true := by kernel_rfl
theorem params : parsOf Try.prog Try.f8.params.toList = some directKeeps_pars := by kernel_rfl
set_option maxRecDepth 100000 in
theorem lifted (os : Os) (started : os.Started) (H : Type) (enc : TypeId × Value → H) :
    ReturnsInHanded {} Try.checked os 8 .any (Rows.directKeepsSpec.pre6 enc Try.prog Try.f8 Rows.directKeepsRow.domain false) (Rows.directKeepsSpec.post enc Try.prog Try.f8 false true false false) :=
  law_lift (C := Try.checked) own started (by kernel_rfl) Try.func8
    (ChangeSpec.witness6 (enc := enc) (C := Try.checked) false ⟨#[], #[.slice none 0 0, .int .u8 0, .int .u64 0], []⟩ 8 (by kernel_rfl) (by kernel_rfl) (by kernel_rfl) (by kernel_rfl))
    params (sound 13) directKeeps_pure laidOut (by kernel_rfl) rfl rfl Try.underlying4
    (fun ds h => by match ds, h with | [d1, d2, d3], _ => rfl)
theorem over : Rows.directKeepsRow.holds Try.pinned (OpenSpec.ofChange Rows.directKeepsSpec) :=
  OpenClaim.holds_of_wide 8 Try.f8 rfl rfl rfl rfl rfl rfl rfl ⟨rfl, rfl, rfl, rfl, rfl⟩ rfl rfl rfl rfl rfl (by kernel_rfl) Try.func8 (by kernel_rfl)
    (of_decide_eq_true (by kernel_rfl)) (by unfold Func.isWrapper; first | (rw [if_pos (by decide +kernel)]; kernel_rfl) | (rw [if_neg (by decide +kernel)]; exact ⟨rfl, rfl⟩))
    (fun os started H enc _ => lifted os started H enc)
theorem proved : Rows.DirectKeepsSaid := over
end Go.Proofs.Ythknbnhchgbikaa.directKeeps
namespace Go.Proofs.Ythknbnhchgbikaa
theorem directKeeps_holds : Rows.DirectKeepsSaid := directKeeps.proved
end Go.Proofs.Ythknbnhchgbikaa

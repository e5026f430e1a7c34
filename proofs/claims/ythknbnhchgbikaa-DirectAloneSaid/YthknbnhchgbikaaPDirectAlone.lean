/- For every input: a body alone keeps its momentum, and of no bodies there is none: DirectAlone returns true, and each argument reads as it did.
No condition: for every input. -/
import Derived.Test.YthknbnhchgbikaaRows
import Derived.Test.YthknbnhchgbikaaPFk
import Derived.Test.YthknbnhchgbikaaPChk
import Derived.WalkKit
import Derived.ProofKit
set_option linter.all false
namespace Go.Ab
def directAlone_pars : List Par := [(false, [.int .u8]), (false, [.int .u8]), (false, [.int .u8]), (false, [.int .u8]), (false, [.int .u64])]
theorem directAlone_pure : ∀ args out, wfArgs directAlone_pars args 0 out → ∃ os news, evFun T 13 9 args out = some (.c (.bool true), os, news) := by
  intro args out h
  obtain ⟨a, r, rfl, ha, h⟩ := wfA_int h
  obtain ⟨b, r, rfl, hb, h⟩ := wfA_int h
  obtain ⟨c, r, rfl, hc, h⟩ := wfA_int h
  obtain ⟨d, r, rfl, hd, h⟩ := wfA_int h
  obtain ⟨t, r, rfl, ht, h⟩ := wfA_int h
  obtain ⟨rfl, rfl⟩ := wfA_nil h
  exact ⟨_, _, alone_ev 0 a b c d t (inK_u8 ha) (inK_u8 hb) (inK_u8 hc) (inK_u8 hd) (inK_u64 ht)⟩
end Go.Ab
namespace Go.Proofs.Ythknbnhchgbikaa.directAlone
open Go.Ab
theorem own : ownKnob Try.prog.godebug = none := by kernel_rfl
theorem laidOut : laidOutB Try.prog = true := by kernel_rfl
theorem params : parsOf Try.prog Try.f9.params.toList = some directAlone_pars := by kernel_rfl
set_option maxRecDepth 100000 in
theorem lifted (os : Os) (started : os.Started) (H : Type) (enc : TypeId × Value → H) :
    ReturnsInHanded {} Try.checked os 9 .any (Rows.directAloneSpec.pre6 enc Try.prog Try.f9 Rows.directAloneRow.domain false) (Rows.directAloneSpec.post enc Try.prog Try.f9 false true false false) :=
  law_lift (C := Try.checked) own started (by kernel_rfl) Try.func9
    (ChangeSpec.witness6 (enc := enc) (C := Try.checked) false ⟨#[], #[.int .u8 0, .int .u8 0, .int .u8 0, .int .u8 0, .int .u64 0], []⟩ 8 (by kernel_rfl) (by kernel_rfl) (by kernel_rfl) (by kernel_rfl))
    params (sound 13) directAlone_pure laidOut (by kernel_rfl) rfl rfl Try.underlying4
    (fun ds h => by match ds, h with | [d1, d2, d3, d4, d5], _ => rfl)
theorem over : Rows.directAloneRow.holds Try.pinned (OpenSpec.ofChange Rows.directAloneSpec) :=
  OpenClaim.holds_of_wide 9 Try.f9 rfl rfl rfl rfl rfl rfl rfl ⟨rfl, rfl, rfl, rfl, rfl⟩ rfl rfl rfl rfl rfl (by kernel_rfl) Try.func9 (by kernel_rfl)
    (of_decide_eq_true (by kernel_rfl)) (by unfold Func.isWrapper; first | (rw [if_pos (by decide +kernel)]; kernel_rfl) | (rw [if_neg (by decide +kernel)]; exact ⟨rfl, rfl⟩))
    (fun os started H enc _ => lifted os started H enc)
theorem proved : Rows.DirectAloneSaid := over
end Go.Proofs.Ythknbnhchgbikaa.directAlone
namespace Go.Proofs.Ythknbnhchgbikaa
theorem directAlone_holds : Rows.DirectAloneSaid := directAlone.proved
end Go.Proofs.Ythknbnhchgbikaa

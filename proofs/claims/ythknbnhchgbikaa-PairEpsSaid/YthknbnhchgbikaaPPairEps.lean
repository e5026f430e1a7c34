/- For every input: a greater Eps never pulls more, on a line of whole distances; the pull goes the way of the distance: PairEps returns true, and each argument reads as it did.
No condition: for every input. -/
import Derived.Test.YthknbnhchgbikaaRows
import Derived.Test.YthknbnhchgbikaaPFh
import Derived.Test.YthknbnhchgbikaaPChk
import Derived.WalkKit
import Derived.ProofKit
set_option linter.all false
namespace Go.Ab
def pairEps_pars : List Par := [(false, [.int .u8]), (false, [.int .u8]), (false, [.int .u8]), (false, [.int .u8]), (false, [.int .u8])]
theorem pairEps_pure : ∀ args out, wfArgs pairEps_pars args 0 out → ∃ os news, evFun T 11 4 args out = some (.c (.bool true), os, news) := by
  intro args out h
  obtain ⟨m, r, rfl, hm, h⟩ := wfA_int h
  obtain ⟨n, r, rfl, hn, h⟩ := wfA_int h
  obtain ⟨f, r, rfl, hf, h⟩ := wfA_int h
  obtain ⟨a, r, rfl, ha, h⟩ := wfA_int h
  obtain ⟨b, r, rfl, hb, h⟩ := wfA_int h
  obtain ⟨rfl, rfl⟩ := wfA_nil h
  exact ⟨_, _, eps_ev 0 m n f a b (inK_u8 hm) (inK_u8 hn) (inK_u8 hf) (inK_u8 ha) (inK_u8 hb)⟩
end Go.Ab
namespace Go.Proofs.Ythknbnhchgbikaa.pairEps
open Go.Ab
theorem own : ownKnob Try.prog.godebug = none := by kernel_rfl
theorem laidOut : laidOutB Try.prog = true := by kernel_rfl
theorem params : parsOf Try.prog Try.f4.params.toList = some pairEps_pars := by kernel_rfl
set_option maxRecDepth 100000 in
theorem lifted (os : Os) (started : os.Started) (H : Type) (enc : TypeId × Value → H) :
    ReturnsInHanded {} Try.checked os 4 .any (Rows.pairEpsSpec.pre6 enc Try.prog Try.f4 Rows.pairEpsRow.domain false) (Rows.pairEpsSpec.post enc Try.prog Try.f4 false true false false) :=
  law_lift (C := Try.checked) own started (by kernel_rfl) Try.func4
    (ChangeSpec.witness6 (enc := enc) (C := Try.checked) false ⟨#[], #[.int .u8 0, .int .u8 0, .int .u8 0, .int .u8 0, .int .u8 0], []⟩ 8 (by kernel_rfl) (by kernel_rfl) (by kernel_rfl) (by kernel_rfl))
    params (sound 11) pairEps_pure laidOut (by kernel_rfl) rfl rfl Try.underlying4
    (fun ds h => by match ds, h with | [d1, d2, d3, d4, d5], _ => rfl)
theorem over : Rows.pairEpsRow.holds Try.pinned (OpenSpec.ofChange Rows.pairEpsSpec) :=
  OpenClaim.holds_of_wide 4 Try.f4 rfl rfl rfl rfl rfl rfl rfl ⟨rfl, rfl, rfl, rfl, rfl⟩ rfl rfl rfl rfl rfl (by kernel_rfl) Try.func4 (by kernel_rfl)
    (of_decide_eq_true (by kernel_rfl)) (by unfold Func.isWrapper; first | (rw [if_pos (by decide +kernel)]; kernel_rfl) | (rw [if_neg (by decide +kernel)]; exact ⟨rfl, rfl⟩))
    (fun os started H enc _ => lifted os started H enc)
theorem proved : Rows.PairEpsSaid := over
end Go.Proofs.Ythknbnhchgbikaa.pairEps
namespace Go.Proofs.Ythknbnhchgbikaa
theorem pairEps_holds : Rows.PairEpsSaid := pairEps.proved
end Go.Proofs.Ythknbnhchgbikaa

/- For every input: with both ways changed for one another what is got is changed so, too: PairAcross returns true, and each argument reads as it did.
No condition: for every input. -/
import Derived.Test.YthknbnhchgbikaaRows
import Derived.Test.YthknbnhchgbikaaPFh
import Derived.Test.YthknbnhchgbikaaPChk
import Derived.WalkKit
import Derived.ProofKit
set_option linter.all false
namespace Go.Ab
def pairAcross_pars : List Par := [(true, [.int .i64, .int .u64]), (true, [.int .i64, .int .u64]), (false, [.int .i32]), (false, [.int .i32]), (false, [.int .u64])]
theorem pairAcross_pure : ∀ args out, wfArgs pairAcross_pars args 0 out → ∃ os news, evFun T 11 5 args out = some (.c (.bool true), os, news) := by
  intro args out h
  obtain ⟨a1, a2, r, rfl, ha, h⟩ := wfA_fix h
  obtain ⟨b1, b2, r, rfl, hb, h⟩ := wfA_fix h
  obtain ⟨x, r, rfl, hx, h⟩ := wfA_int h
  obtain ⟨y, r, rfl, hy, h⟩ := wfA_int h
  obtain ⟨t, r, rfl, ht, h⟩ := wfA_int h
  obtain ⟨rfl, rfl⟩ := wfA_nil h
  exact ⟨_, _, across_ev 0 a1 a2 b1 b2 x y t (by unfold okF; omega) (by unfold okF; omega) (inK_i32 hx) (inK_i32 hy) (inK_u64 ht)⟩
end Go.Ab
namespace Go.Proofs.Ythknbnhchgbikaa.pairAcross
open Go.Ab
theorem own : ownKnob Try.prog.godebug = none := by kernel_rfl
theorem laidOut : laidOutB Try.prog = true := by kernel_rfl
theorem params : parsOf Try.prog Try.f5.params.toList = some pairAcross_pars := by kernel_rfl
set_option maxRecDepth 100000 in
theorem lifted (os : Os) (started : os.Started) (H : Type) (enc : TypeId × Value → H) :
    ReturnsInHanded {} Try.checked os 5 .any (Rows.pairAcrossSpec.pre6 enc Try.prog Try.f5 Rows.pairAcrossRow.domain false) (Rows.pairAcrossSpec.post enc Try.prog Try.f5 false true false false) :=
  law_lift (C := Try.checked) own started (by kernel_rfl) Try.func5
    (ChangeSpec.witness6 (enc := enc) (C := Try.checked) false ⟨#[], #[.agg #[(.int .i64 0), (.int .u64 0)], .agg #[(.int .i64 0), (.int .u64 0)], .int .i32 0, .int .i32 0, .int .u64 0], []⟩ 8 (by kernel_rfl) (by kernel_rfl) (by kernel_rfl) (by kernel_rfl))
    params (sound 11) pairAcross_pure laidOut (by kernel_rfl) rfl rfl Try.underlying4
    (fun ds h => by match ds, h with | [d1, d2, d3, d4, d5], _ => rfl)
theorem over : Rows.pairAcrossRow.holds Try.pinned (OpenSpec.ofChange Rows.pairAcrossSpec) :=
  OpenClaim.holds_of_wide 5 Try.f5 rfl rfl rfl rfl rfl rfl rfl ⟨rfl, rfl, rfl, rfl, rfl⟩ rfl rfl rfl rfl rfl (by kernel_rfl) Try.func5 (by kernel_rfl)
    (of_decide_eq_true (by kernel_rfl)) (by unfold Func.isWrapper; first | (rw [if_pos (by decide +kernel)]; kernel_rfl) | (rw [if_neg (by decide +kernel)]; exact ⟨rfl, rfl⟩))
    (fun os started H enc _ => lifted os started H enc)
theorem proved : Rows.PairAcrossSaid := over
end Go.Proofs.Ythknbnhchgbikaa.pairAcross
namespace Go.Proofs.Ythknbnhchgbikaa
theorem pairAcross_holds : Rows.PairAcrossSaid := pairAcross.proved
end Go.Proofs.Ythknbnhchgbikaa

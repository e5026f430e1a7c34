/- The functions' data are the program's own. -/
import Derived.KernelRfl
import Derived.Test.YthknbnhchgbikaaChecked
import Derived.Test.YthknbnhchgbikaaAb2
import Derived.Test.YthknbnhchgbikaaQDat
import Derived.Test.YthknbnhchgbikaaQLen
set_option linter.all false
namespace Go.Ab
theorem ok3 : compF Go.Proofs.Try.prog 3 ir3 = some ir3 := by kernel_rfl
theorem ok4 : compF Go.Proofs.Try.prog 4 ir4 = some ir4 := by kernel_rfl
theorem ok5 : compF Go.Proofs.Try.prog 5 ir5 = some ir5 := by kernel_rfl
theorem ok13 : compF Go.Proofs.Try.prog 13 ir13 = some ir13 := by kernel_rfl
theorem ok14 : compF Go.Proofs.Try.prog 14 ir14 = some ir14 := by kernel_rfl
theorem ok17 : compF Go.Proofs.Try.prog 17 ir17 = some ir17 := by kernel_rfl
theorem ok18 : compF Go.Proofs.Try.prog 18 ir18 = some ir18 := by kernel_rfl
theorem ok19 : compF Go.Proofs.Try.prog 19 ir19 = some ir19 := by kernel_rfl
theorem ok20 : compF Go.Proofs.Try.prog 20 ir20 = some ir20 := by kernel_rfl
theorem ok21 : compF Go.Proofs.Try.prog 21 ir21 = some ir21 := by kernel_rfl
theorem ok22 : compF Go.Proofs.Try.prog 22 ir22 = some ir22 := by kernel_rfl
theorem ok31 : compF Go.Proofs.Try.prog 31 ir31 = some ir31 := by kernel_rfl
theorem ok32 : compF Go.Proofs.Try.prog 32 ir32 = some ir32 := by kernel_rfl
theorem ok33 : compF Go.Proofs.Try.prog 33 ir33 = some ir33 := by kernel_rfl
theorem ok34 : compF Go.Proofs.Try.prog 34 ir34 = some ir34 := by kernel_rfl
theorem ok47 : compF Go.Proofs.Try.prog 47 ir47 = some ir47 := by kernel_rfl
theorem ok48 : compF Go.Proofs.Try.prog 48 ir48 = some ir48 := by kernel_rfl
theorem ok49 : compF Go.Proofs.Try.prog 49 ir49 = some ir49 := by kernel_rfl
theorem ok50 : compF Go.Proofs.Try.prog 50 ir50 = some ir50 := by kernel_rfl
theorem ok51 : compF Go.Proofs.Try.prog 51 ir51 = some ir51 := by kernel_rfl
theorem ok52 : compF Go.Proofs.Try.prog 52 ir52 = some ir52 := by kernel_rfl
theorem ok53 : compF Go.Proofs.Try.prog 53 ir53 = some ir53 := by kernel_rfl
theorem ok54 : compF Go.Proofs.Try.prog 54 ir54 = some ir54 := by kernel_rfl
theorem ok55 : compF Go.Proofs.Try.prog 55 ir55 = some ir55 := by kernel_rfl
theorem ok58 : compF Go.Proofs.Try.prog 58 ir58 = some ir58 := by kernel_rfl
theorem ok59 : compF Go.Proofs.Try.prog 59 ir59 = some ir59 := by kernel_rfl
theorem ok60 : compF Go.Proofs.Try.prog 60 ir60 = some ir60 := by kernel_rfl
theorem ok61 : compF Go.Proofs.Try.prog 61 ir61 = some ir61 := by kernel_rfl
theorem ok62 : compF Go.Proofs.Try.prog 62 ir62 = some ir62 := by kernel_rfl
theorem ok63 : compF Go.Proofs.Try.prog 63 ir63 = some ir63 := by kernel_rfl
theorem ok64 : compF Go.Proofs.Try.prog 64 ir64 = some ir64 := by kernel_rfl
theorem ok65 : compF Go.Proofs.Try.prog 65 ir65 = some ir65 := by kernel_rfl
theorem ok70 : compF Go.Proofs.Try.prog 70 ir70 = some ir70 := by kernel_rfl
theorem ok71 : compF Go.Proofs.Try.prog 71 ir71 = some ir71 := by kernel_rfl
theorem ok72 : compF Go.Proofs.Try.prog 72 ir72 = some ir72 := by kernel_rfl
theorem ok73 : compF Go.Proofs.Try.prog 73 ir73 = some ir73 := by kernel_rfl
theorem ok74 : compF Go.Proofs.Try.prog 74 ir74 = some ir74 := by kernel_rfl
theorem ok75 : compF Go.Proofs.Try.prog 75 ir75 = some ir75 := by kernel_rfl
theorem ok76 : compF Go.Proofs.Try.prog 76 ir76 = some ir76 := by kernel_rfl
theorem ok77 : compF Go.Proofs.Try.prog 77 ir77 = some ir77 := by kernel_rfl
theorem ok93 : compF Go.Proofs.Try.prog 93 ir93 = some ir93 := by kernel_rfl
theorem ok94 : compF Go.Proofs.Try.prog 94 ir94 = some ir94 := by kernel_rfl
theorem ok95 : compF Go.Proofs.Try.prog 95 ir95 = some ir95 := by kernel_rfl
theorem ok96 : compF Go.Proofs.Try.prog 96 ir96 = some ir96 := by kernel_rfl
theorem ok97 : compF Go.Proofs.Try.prog 97 ir97 = some ir97 := by kernel_rfl
theorem ok98 : compF Go.Proofs.Try.prog 98 ir98 = some ir98 := by kernel_rfl
theorem ok99 : compF Go.Proofs.Try.prog 99 ir99 = some ir99 := by kernel_rfl
theorem ok100 : compF Go.Proofs.Try.prog 100 ir100 = some ir100 := by kernel_rfl
theorem ok101 : compF Go.Proofs.Try.prog 101 ir101 = some ir101 := by kernel_rfl
theorem ok102 : compF Go.Proofs.Try.prog 102 ir102 = some ir102 := by kernel_rfl
theorem ok103 : compF Go.Proofs.Try.prog 103 ir103 = some ir103 := by kernel_rfl
theorem ok104 : compF Go.Proofs.Try.prog 104 ir104 = some ir104 := by kernel_rfl
theorem ok105 : compF Go.Proofs.Try.prog 105 ir105 = some ir105 := by kernel_rfl
theorem ok106 : compF Go.Proofs.Try.prog 106 ir106 = some ir106 := by kernel_rfl
theorem ok107 : compF Go.Proofs.Try.prog 107 ir107 = some ir107 := by kernel_rfl
theorem ok111 : compF Go.Proofs.Try.prog 111 ir111 = some ir111 := by kernel_rfl
theorem ok112 : compF Go.Proofs.Try.prog 112 ir112 = some ir112 := by kernel_rfl
theorem ok113 : compF Go.Proofs.Try.prog 113 ir113 = some ir113 := by kernel_rfl
theorem ok114 : compF Go.Proofs.Try.prog 114 ir114 = some ir114 := by kernel_rfl
theorem ok115 : compF Go.Proofs.Try.prog 115 ir115 = some ir115 := by kernel_rfl
theorem ok116 : compF Go.Proofs.Try.prog 116 ir116 = some ir116 := by kernel_rfl
theorem ok117 : compF Go.Proofs.Try.prog 117 ir117 = some ir117 := by kernel_rfl
theorem ok118 : compF Go.Proofs.Try.prog 118 ir118 = some ir118 := by kernel_rfl
theorem ok119 : compF Go.Proofs.Try.prog 119 ir119 = some ir119 := by kernel_rfl
theorem ok120 : compF Go.Proofs.Try.prog 120 ir120 = some ir120 := by kernel_rfl
theorem ok121 : compF Go.Proofs.Try.prog 121 ir121 = some ir121 := by kernel_rfl
theorem ok122 : compF Go.Proofs.Try.prog 122 ir122 = some ir122 := by kernel_rfl
theorem ok123 : compF Go.Proofs.Try.prog 123 ir123 = some ir123 := by kernel_rfl
theorem ok124 : compF Go.Proofs.Try.prog 124 ir124 = some ir124 := by kernel_rfl
theorem ok125 : compF Go.Proofs.Try.prog 125 ir125 = some ir125 := by kernel_rfl
theorem ok127 : compF Go.Proofs.Try.prog 127 ir127 = some ir127 := by kernel_rfl
theorem ok128 : compF Go.Proofs.Try.prog 128 ir128 = some ir128 := by kernel_rfl
theorem ok129 : compF Go.Proofs.Try.prog 129 ir129 = some ir129 := by kernel_rfl
theorem ok130 : compF Go.Proofs.Try.prog 130 ir130 = some ir130 := by kernel_rfl
theorem ok131 : compF Go.Proofs.Try.prog 131 ir131 = some ir131 := by kernel_rfl
theorem ok132 : compF Go.Proofs.Try.prog 132 ir132 = some ir132 := by kernel_rfl
theorem ok133 : compF Go.Proofs.Try.prog 133 ir133 = some ir133 := by kernel_rfl
theorem ok134 : compF Go.Proofs.Try.prog 134 ir134 = some ir134 := by kernel_rfl
theorem ok135 : compF Go.Proofs.Try.prog 135 ir135 = some ir135 := by kernel_rfl
theorem ok143 : compF Go.Proofs.Try.prog 143 ir143 = some ir143 := by kernel_rfl
theorem ok144 : compF Go.Proofs.Try.prog 144 ir144 = some ir144 := by kernel_rfl
theorem ok145 : compF Go.Proofs.Try.prog 145 ir145 = some ir145 := by kernel_rfl
theorem ok146 : compF Go.Proofs.Try.prog 146 ir146 = some ir146 := by kernel_rfl
theorem ok147 : compF Go.Proofs.Try.prog 147 ir147 = some ir147 := by kernel_rfl
theorem ok148 : compF Go.Proofs.Try.prog 148 ir148 = some ir148 := by kernel_rfl
theorem ok149 : compF Go.Proofs.Try.prog 149 ir149 = some ir149 := by kernel_rfl
theorem ok150 : compF Go.Proofs.Try.prog 150 ir150 = some ir150 := by kernel_rfl
theorem ok159 : compF Go.Proofs.Try.prog 159 ir159 = some ir159 := by kernel_rfl
theorem ok161 : compF Go.Proofs.Try.prog 161 ir161 = some ir161 := by kernel_rfl
theorem ok162 : compF Go.Proofs.Try.prog 162 ir162 = some ir162 := by kernel_rfl
theorem ok163 : compF Go.Proofs.Try.prog 163 ir163 = some ir163 := by kernel_rfl
theorem ok164 : compF Go.Proofs.Try.prog 164 ir164 = some ir164 := by kernel_rfl
theorem ok166 : compF Go.Proofs.Try.prog 166 ir166 = some ir166 := by kernel_rfl
theorem ok167 : compF Go.Proofs.Try.prog 167 ir167 = some ir167 := by kernel_rfl
theorem ok168 : compF Go.Proofs.Try.prog 168 ir168 = some ir168 := by kernel_rfl
theorem ok169 : compF Go.Proofs.Try.prog 169 ir169 = some ir169 := by kernel_rfl
theorem ok170 : compF Go.Proofs.Try.prog 170 ir170 = some ir170 := by kernel_rfl
theorem ok171 : compF Go.Proofs.Try.prog 171 ir171 = some ir171 := by kernel_rfl
theorem ok175 : compF Go.Proofs.Try.prog 175 ir175 = some ir175 := by kernel_rfl
theorem ok176 : compF Go.Proofs.Try.prog 176 ir176 = some ir176 := by kernel_rfl
theorem ok177 : compF Go.Proofs.Try.prog 177 ir177 = some ir177 := by kernel_rfl
theorem ok178 : compF Go.Proofs.Try.prog 178 ir178 = some ir178 := by kernel_rfl
theorem bitLen_log (x : Nat) (h : x < 2 ^ 64) (h0 : x ≠ 0) : Lib.bitLen x = Nat.log2 x + 1 := by
  induction x using Nat.strongRecOn with
  | _ x ih =>
    by_cases h1 : x = 1
    · subst h1; decide
    · rw [Lib.bitLen_half x h0 h, ih (x / 2) (by omega) (by omega) (by omega), Nat.log2_def x, if_pos (by omega)]
      omega
theorem blen_bit (n : Int) (h : n ≤ 18446744073709551615) : blen n = ((Lib.bitLen n.toNat : Nat) : Int) := by
  unfold blen
  split
  · rename_i q; rw [q]; rfl
  · rename_i q
    rw [bitLen_log n.toNat (by omega) q]; omega
theorem ok185 (call : CallF) (_ : CallSound Go.Proofs.Try.prog call) : Sound1 Go.Proofs.Try.prog 185 (primLen64 call) := by
  intro args out v os news h
  unfold primLen64 at h
  split at h
  · rename_i n
    simp only [Option.some.injEq, Prod.mk.injEq] at h
    obtain ⟨rfl, rfl, rfl⟩ := h
    refine ⟨⟨Go.Proofs.Try.f185, Go.Proofs.Try.func185, by kernel_rfl, by decide +kernel⟩, ?_⟩
    intro j w vals hv _ _ _ hH
    cases vals with
    | nil => exact hv.elim
    | cons x r =>
      cases r with
      | cons y r => exact hv.2.elim
      | nil =>
        obtain ⟨⟨rfl, hk⟩, _⟩ := hv
        have b := inK_u64 hk
        refine (Go.Proofs.Try.bits_Len64 n w b.1 b.2).mono ?_
        rintro e w' ⟨rfl, rfl⟩
        refine ⟨_, j, rfl, fun _ => rfl, ?_, hH, RelW.refl _ _, by simp, by simp, by simp⟩
        refine ⟨by rw [blen_bit n b.2], ?_⟩
        have := Lib.bitLen_le n.toNat 64 (by omega) (by omega)
        rw [blen_bit n b.2]
        unfold inK
        rw [show IntKind.i64.min = -9223372036854775808 from rfl, show IntKind.i64.max = 9223372036854775807 from rfl]
        omega
  · cases h
theorem all_ok : OkAll Go.Proofs.Try.prog tbl := ⟨ok3, ok4, ok5, ok13, ok14, ok17, ok18, ok19, ok20, ok21, ok22, ok31, ok32, ok33, ok34, ok47, ok48, ok49, ok50, ok51, ok52, ok53, ok54, ok55, ok58, ok59, ok60, ok61, ok62, ok63, ok64, ok65, ok70, ok71, ok72, ok73, ok74, ok75, ok76, ok77, ok93, ok94, ok95, ok96, ok97, ok98, ok99, ok100, ok101, ok102, ok103, ok104, ok105, ok106, ok107, ok111, ok112, ok113, ok114, ok115, ok116, ok117, ok118, ok119, ok120, ok121, ok122, ok123, ok124, ok125, ok127, ok128, ok129, ok130, ok131, ok132, ok133, ok134, ok135, ok143, ok144, ok145, ok146, ok147, ok148, ok149, ok150, ok159, ok161, ok162, ok163, ok164, ok166, ok167, ok168, ok169, ok170, ok171, ok175, ok176, ok177, ok178, ok185, trivial⟩
theorem mixed : (Go.Proofs.Try.prog).follows .mixedOrders = true := by kernel_rfl
theorem sound (D : Nat) : CallSound Go.Proofs.Try.prog (evFun T D) := sound_of mixed all_ok D
end Go.Ab

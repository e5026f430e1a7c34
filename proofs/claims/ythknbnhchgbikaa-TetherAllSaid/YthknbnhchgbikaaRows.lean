/-
  No cell of these rows narrows 'for every input' (looked for: loops, veiled, ifaces, maps, wideKeys, modest, calm, conditions, laid).
  DERIVED. THE GIVEN ROWS OF THIS SEAT. 14 by the template 'for every input the law returns true; each argument reads behind the call as it read before'; 0 by the template 'total and deterministic' (their statements: YthknbnhchgbikaaTotals.lean).
  GIVEN WITH THE SEED: the statements are not yours to turn. If you find one false, say at which input.
  Laid BY PROGRAM, IN A SANDBOX (cutbox-rows.mjs): the forced cells as the released guide's own fill.sh prints them over the translation e40fb3d6e293e1be… (all of the seat's roots in one cut). By AI agents, Wed Nov 11 2026. No macro, syntax, notation, axiom, sorry.
-/
import Derived.Test.YthknbnhchgbikaaChecked
import GoSem.Claim
import GoSem.ClaimJoined
import GoSem.ClaimMapViews
import Derived.JoinedTies
import Derived.KernelRfl
namespace Go.Proofs.Ythknbnhchgbikaa
/- THE CELL 'sum', in the pinned program and in every row, IS THE sha256 OF THE DUMP (.gsa) THAT YthknbnhchgbikaaProg.lean LOADS. Nothing in Lean hashes anything: it is a label: what it is worth is what the hold of that sum in a sandbox is worth. -/
noncomputable def Try.pinned : Pinned := { name := "ythknbnhchgbikaa", sum := "e40fb3d6e293e1beb3a4f2fba75d1bf76cf80100a2427842aafbf300a90df1cf", checked := Try.checked }
namespace Rows
def none {H : Type} : Left H := { results := [], args := [] }

/-- 'perigeelaw10.PairNone': WHATEVER THE INPUT: true; the input reads as it did. -/
def pairNoneSpec : ChangeSpec := { name := "pairNone", fn := fun _ => fun
  | [d1, d2, d3, d4] => { results := [.lit (.bool true)], args := [d1, d2, d3, d4] }
  | _ => none }
def pairNoneRow : OpenClaim := { program := "ythknbnhchgbikaa", sum := "e40fb3d6e293e1beb3a4f2fba75d1bf76cf80100a2427842aafbf300a90df1cf", func := "perigee/perigeelaw10.PairNone", spec := "pairNone", inPlace := ["math/bits.Sub64", "math/bits.Add64"], unfollowed := true, recurses := true, apart := false }
def PairNoneSaid : Prop := pairNoneRow.holds Try.pinned (OpenSpec.ofChange pairNoneSpec)

/-- ITS FALSE NEIGHBOUR: 'it returns false'. Refute it at one input. -/
def pairNoneWrong : ChangeSpec := { name := "pairNone", fn := fun _ => fun
  | [d1, d2, d3, d4] => { results := [.lit (.bool false)], args := [d1, d2, d3, d4] }
  | _ => none }
def PairNoneWrongFalsely : Prop := pairNoneRow.holds Try.pinned (OpenSpec.ofChange pairNoneWrong)

/-- 'perigeelaw10.PairEps': WHATEVER THE INPUT: true; the input reads as it did. -/
def pairEpsSpec : ChangeSpec := { name := "pairEps", fn := fun _ => fun
  | [d1, d2, d3, d4, d5] => { results := [.lit (.bool true)], args := [d1, d2, d3, d4, d5] }
  | _ => none }
def pairEpsRow : OpenClaim := { program := "ythknbnhchgbikaa", sum := "e40fb3d6e293e1beb3a4f2fba75d1bf76cf80100a2427842aafbf300a90df1cf", func := "perigee/perigeelaw10.PairEps", spec := "pairEps", inPlace := ["math/bits.Sub64", "math/bits.Add64"], unfollowed := true, recurses := true, apart := false }
def PairEpsSaid : Prop := pairEpsRow.holds Try.pinned (OpenSpec.ofChange pairEpsSpec)

/-- ITS FALSE NEIGHBOUR: 'it returns false'. Refute it at one input. -/
def pairEpsWrong : ChangeSpec := { name := "pairEps", fn := fun _ => fun
  | [d1, d2, d3, d4, d5] => { results := [.lit (.bool false)], args := [d1, d2, d3, d4, d5] }
  | _ => none }
def PairEpsWrongFalsely : Prop := pairEpsRow.holds Try.pinned (OpenSpec.ofChange pairEpsWrong)

/-- 'perigeelaw10.PairAcross': WHATEVER THE INPUT: true; the input reads as it did. -/
def pairAcrossSpec : ChangeSpec := { name := "pairAcross", fn := fun _ => fun
  | [d1, d2, d3, d4, d5] => { results := [.lit (.bool true)], args := [d1, d2, d3, d4, d5] }
  | _ => none }
def pairAcrossRow : OpenClaim := { program := "ythknbnhchgbikaa", sum := "e40fb3d6e293e1beb3a4f2fba75d1bf76cf80100a2427842aafbf300a90df1cf", func := "perigee/perigeelaw10.PairAcross", spec := "pairAcross", inPlace := ["math/bits.Sub64", "math/bits.Add64"], unfollowed := true, recurses := true, apart := false }
def PairAcrossSaid : Prop := pairAcrossRow.holds Try.pinned (OpenSpec.ofChange pairAcrossSpec)

/-- ITS FALSE NEIGHBOUR: 'it returns false'. Refute it at one input. -/
def pairAcrossWrong : ChangeSpec := { name := "pairAcross", fn := fun _ => fun
  | [d1, d2, d3, d4, d5] => { results := [.lit (.bool false)], args := [d1, d2, d3, d4, d5] }
  | _ => none }
def PairAcrossWrongFalsely : Prop := pairAcrossRow.holds Try.pinned (OpenSpec.ofChange pairAcrossWrong)

/-- 'perigeelaw11.DirectAll': WHATEVER THE INPUT: true; the input reads as it did. -/
def directAllSpec : ChangeSpec := { name := "directAll", fn := fun _ => fun
  | [d1, d2] => { results := [.lit (.bool true)], args := [d1, d2] }
  | _ => none }
def directAllRow : OpenClaim := { program := "ythknbnhchgbikaa", sum := "e40fb3d6e293e1beb3a4f2fba75d1bf76cf80100a2427842aafbf300a90df1cf", func := "perigee/perigeelaw11.DirectAll", spec := "directAll", inPlace := ["math/bits.Sub64", "math/bits.Add64"], unfollowed := true, recurses := true, apart := false }
def DirectAllSaid : Prop := directAllRow.holds Try.pinned (OpenSpec.ofChange directAllSpec)

/-- ITS FALSE NEIGHBOUR: 'it returns false'. Refute it at one input. -/
def directAllWrong : ChangeSpec := { name := "directAll", fn := fun _ => fun
  | [d1, d2] => { results := [.lit (.bool false)], args := [d1, d2] }
  | _ => none }
def DirectAllWrongFalsely : Prop := directAllRow.holds Try.pinned (OpenSpec.ofChange directAllWrong)

/-- 'perigeelaw11.DirectMade': WHATEVER THE INPUT: true; the input reads as it did. -/
def directMadeSpec : ChangeSpec := { name := "directMade", fn := fun _ => fun
  | [d1, d2, d3] => { results := [.lit (.bool true)], args := [d1, d2, d3] }
  | _ => none }
def directMadeRow : OpenClaim := { program := "ythknbnhchgbikaa", sum := "e40fb3d6e293e1beb3a4f2fba75d1bf76cf80100a2427842aafbf300a90df1cf", func := "perigee/perigeelaw11.DirectMade", spec := "directMade", inPlace := ["math/bits.Sub64", "math/bits.Add64"], unfollowed := true, recurses := true, apart := false }
def DirectMadeSaid : Prop := directMadeRow.holds Try.pinned (OpenSpec.ofChange directMadeSpec)

/-- ITS FALSE NEIGHBOUR: 'it returns false'. Refute it at one input. -/
def directMadeWrong : ChangeSpec := { name := "directMade", fn := fun _ => fun
  | [d1, d2, d3] => { results := [.lit (.bool false)], args := [d1, d2, d3] }
  | _ => none }
def DirectMadeWrongFalsely : Prop := directMadeRow.holds Try.pinned (OpenSpec.ofChange directMadeWrong)

/-- 'perigeelaw11.DirectKeeps': WHATEVER THE INPUT: true; the input reads as it did. -/
def directKeepsSpec : ChangeSpec := { name := "directKeeps", fn := fun _ => fun
  | [d1, d2, d3] => { results := [.lit (.bool true)], args := [d1, d2, d3] }
  | _ => none }
def directKeepsRow : OpenClaim := { program := "ythknbnhchgbikaa", sum := "e40fb3d6e293e1beb3a4f2fba75d1bf76cf80100a2427842aafbf300a90df1cf", func := "perigee/perigeelaw11.DirectKeeps", spec := "directKeeps", inPlace := ["math/bits.Sub64", "math/bits.Add64"], unfollowed := true, recurses := true, apart := false }
def DirectKeepsSaid : Prop := directKeepsRow.holds Try.pinned (OpenSpec.ofChange directKeepsSpec)

/-- ITS FALSE NEIGHBOUR: 'it returns false'. Refute it at one input. -/
def directKeepsWrong : ChangeSpec := { name := "directKeeps", fn := fun _ => fun
  | [d1, d2, d3] => { results := [.lit (.bool false)], args := [d1, d2, d3] }
  | _ => none }
def DirectKeepsWrongFalsely : Prop := directKeepsRow.holds Try.pinned (OpenSpec.ofChange directKeepsWrong)

/-- 'perigeelaw11.DirectAlone': WHATEVER THE INPUT: true; the input reads as it did. -/
def directAloneSpec : ChangeSpec := { name := "directAlone", fn := fun _ => fun
  | [d1, d2, d3, d4, d5] => { results := [.lit (.bool true)], args := [d1, d2, d3, d4, d5] }
  | _ => none }
def directAloneRow : OpenClaim := { program := "ythknbnhchgbikaa", sum := "e40fb3d6e293e1beb3a4f2fba75d1bf76cf80100a2427842aafbf300a90df1cf", func := "perigee/perigeelaw11.DirectAlone", spec := "directAlone", inPlace := ["math/bits.Sub64", "math/bits.Add64"], unfollowed := true, recurses := true, apart := false }
def DirectAloneSaid : Prop := directAloneRow.holds Try.pinned (OpenSpec.ofChange directAloneSpec)

/-- ITS FALSE NEIGHBOUR: 'it returns false'. Refute it at one input. -/
def directAloneWrong : ChangeSpec := { name := "directAlone", fn := fun _ => fun
  | [d1, d2, d3, d4, d5] => { results := [.lit (.bool false)], args := [d1, d2, d3, d4, d5] }
  | _ => none }
def DirectAloneWrongFalsely : Prop := directAloneRow.holds Try.pinned (OpenSpec.ofChange directAloneWrong)

/-- 'perigeelaw11.DirectTwo': WHATEVER THE INPUT: true; the input reads as it did. -/
def directTwoSpec : ChangeSpec := { name := "directTwo", fn := fun _ => fun
  | [d1, d2, d3] => { results := [.lit (.bool true)], args := [d1, d2, d3] }
  | _ => none }
def directTwoRow : OpenClaim := { program := "ythknbnhchgbikaa", sum := "e40fb3d6e293e1beb3a4f2fba75d1bf76cf80100a2427842aafbf300a90df1cf", func := "perigee/perigeelaw11.DirectTwo", spec := "directTwo", inPlace := ["math/bits.Sub64", "math/bits.Add64"], unfollowed := true, recurses := true, apart := false }
def DirectTwoSaid : Prop := directTwoRow.holds Try.pinned (OpenSpec.ofChange directTwoSpec)

/-- ITS FALSE NEIGHBOUR: 'it returns false'. Refute it at one input. -/
def directTwoWrong : ChangeSpec := { name := "directTwo", fn := fun _ => fun
  | [d1, d2, d3] => { results := [.lit (.bool false)], args := [d1, d2, d3] }
  | _ => none }
def DirectTwoWrongFalsely : Prop := directTwoRow.holds Try.pinned (OpenSpec.ofChange directTwoWrong)

/-- 'perigeelaw9.MassAll': WHATEVER THE INPUT: true; the input reads as it did. -/
def massAllSpec : ChangeSpec := { name := "massAll", fn := fun _ => fun
  | [d] => { results := [.lit (.bool true)], args := [d] }
  | _ => none }
def massAllRow : OpenClaim := { program := "ythknbnhchgbikaa", sum := "e40fb3d6e293e1beb3a4f2fba75d1bf76cf80100a2427842aafbf300a90df1cf", func := "perigee/perigeelaw9.MassAll", spec := "massAll", inPlace := ["math/bits.Sub64", "math/bits.Add64"], unfollowed := true, recurses := true, apart := false }
def MassAllSaid : Prop := massAllRow.holds Try.pinned (OpenSpec.ofChange massAllSpec)

/-- ITS FALSE NEIGHBOUR: 'it returns false'. Refute it at one input. -/
def massAllWrong : ChangeSpec := { name := "massAll", fn := fun _ => fun
  | [d] => { results := [.lit (.bool false)], args := [d] }
  | _ => none }
def MassAllWrongFalsely : Prop := massAllRow.holds Try.pinned (OpenSpec.ofChange massAllWrong)

/-- 'perigeelaw9.MassMade': WHATEVER THE INPUT: true; the input reads as it did. -/
def massMadeSpec : ChangeSpec := { name := "massMade", fn := fun _ => fun
  | [d] => { results := [.lit (.bool true)], args := [d] }
  | _ => none }
def massMadeRow : OpenClaim := { program := "ythknbnhchgbikaa", sum := "e40fb3d6e293e1beb3a4f2fba75d1bf76cf80100a2427842aafbf300a90df1cf", func := "perigee/perigeelaw9.MassMade", spec := "massMade", inPlace := ["math/bits.Sub64", "math/bits.Add64"], unfollowed := true, recurses := true, apart := false }
def MassMadeSaid : Prop := massMadeRow.holds Try.pinned (OpenSpec.ofChange massMadeSpec)

/-- ITS FALSE NEIGHBOUR: 'it returns false'. Refute it at one input. -/
def massMadeWrong : ChangeSpec := { name := "massMade", fn := fun _ => fun
  | [d] => { results := [.lit (.bool false)], args := [d] }
  | _ => none }
def MassMadeWrongFalsely : Prop := massMadeRow.holds Try.pinned (OpenSpec.ofChange massMadeWrong)

/-- 'perigeelaw18.TetherAll': WHATEVER THE INPUT: true; the input reads as it did. -/
def tetherAllSpec : ChangeSpec := { name := "tetherAll", fn := fun _ => fun
  | [d1, d2, d3] => { results := [.lit (.bool true)], args := [d1, d2, d3] }
  | _ => none }
def tetherAllRow : OpenClaim := { program := "ythknbnhchgbikaa", sum := "e40fb3d6e293e1beb3a4f2fba75d1bf76cf80100a2427842aafbf300a90df1cf", func := "perigee/perigeelaw18.TetherAll", spec := "tetherAll", inPlace := ["math/bits.Sub64", "math/bits.Add64"], unfollowed := true, recurses := true, apart := false }
def TetherAllSaid : Prop := tetherAllRow.holds Try.pinned (OpenSpec.ofChange tetherAllSpec)

/-- ITS FALSE NEIGHBOUR: 'it returns false'. Refute it at one input. -/
def tetherAllWrong : ChangeSpec := { name := "tetherAll", fn := fun _ => fun
  | [d1, d2, d3] => { results := [.lit (.bool false)], args := [d1, d2, d3] }
  | _ => none }
def TetherAllWrongFalsely : Prop := tetherAllRow.holds Try.pinned (OpenSpec.ofChange tetherAllWrong)

/-- 'perigeelaw18.TetherLine': WHATEVER THE INPUT: true; the input reads as it did. -/
def tetherLineSpec : ChangeSpec := { name := "tetherLine", fn := fun _ => fun
  | [d1, d2] => { results := [.lit (.bool true)], args := [d1, d2] }
  | _ => none }
def tetherLineRow : OpenClaim := { program := "ythknbnhchgbikaa", sum := "e40fb3d6e293e1beb3a4f2fba75d1bf76cf80100a2427842aafbf300a90df1cf", func := "perigee/perigeelaw18.TetherLine", spec := "tetherLine", inPlace := ["math/bits.Sub64", "math/bits.Add64"], unfollowed := true, recurses := true, apart := false }
def TetherLineSaid : Prop := tetherLineRow.holds Try.pinned (OpenSpec.ofChange tetherLineSpec)

/-- ITS FALSE NEIGHBOUR: 'it returns false'. Refute it at one input. -/
def tetherLineWrong : ChangeSpec := { name := "tetherLine", fn := fun _ => fun
  | [d1, d2] => { results := [.lit (.bool false)], args := [d1, d2] }
  | _ => none }
def TetherLineWrongFalsely : Prop := tetherLineRow.holds Try.pinned (OpenSpec.ofChange tetherLineWrong)

/-- 'perigeelaw12.WalkBack': WHATEVER THE INPUT: true; the input reads as it did. -/
def walkBackSpec : ChangeSpec := { name := "walkBack", fn := fun _ => fun
  | [d1, d2, d3] => { results := [.lit (.bool true)], args := [d1, d2, d3] }
  | _ => none }
def walkBackRow : OpenClaim := { program := "ythknbnhchgbikaa", sum := "e40fb3d6e293e1beb3a4f2fba75d1bf76cf80100a2427842aafbf300a90df1cf", func := "perigee/perigeelaw12.WalkBack", spec := "walkBack", inPlace := ["math/bits.Sub64", "math/bits.Add64"], unfollowed := true, recurses := true, apart := false }
def WalkBackSaid : Prop := walkBackRow.holds Try.pinned (OpenSpec.ofChange walkBackSpec)

/-- ITS FALSE NEIGHBOUR: 'it returns false'. Refute it at one input. -/
def walkBackWrong : ChangeSpec := { name := "walkBack", fn := fun _ => fun
  | [d1, d2, d3] => { results := [.lit (.bool false)], args := [d1, d2, d3] }
  | _ => none }
def WalkBackWrongFalsely : Prop := walkBackRow.holds Try.pinned (OpenSpec.ofChange walkBackWrong)

/-- 'perigeelaw12.WalkNear': WHATEVER THE INPUT: true; the input reads as it did. -/
def walkNearSpec : ChangeSpec := { name := "walkNear", fn := fun _ => fun
  | [d1, d2, d3] => { results := [.lit (.bool true)], args := [d1, d2, d3] }
  | _ => none }
def walkNearRow : OpenClaim := { program := "ythknbnhchgbikaa", sum := "e40fb3d6e293e1beb3a4f2fba75d1bf76cf80100a2427842aafbf300a90df1cf", func := "perigee/perigeelaw12.WalkNear", spec := "walkNear", inPlace := ["math/bits.Sub64", "math/bits.Add64"], unfollowed := true, recurses := true, apart := false }
def WalkNearSaid : Prop := walkNearRow.holds Try.pinned (OpenSpec.ofChange walkNearSpec)

/-- ITS FALSE NEIGHBOUR: 'it returns false'. Refute it at one input. -/
def walkNearWrong : ChangeSpec := { name := "walkNear", fn := fun _ => fun
  | [d1, d2, d3] => { results := [.lit (.bool false)], args := [d1, d2, d3] }
  | _ => none }
def WalkNearWrongFalsely : Prop := walkNearRow.holds Try.pinned (OpenSpec.ofChange walkNearWrong)

/- THE SECOND FORM. 'bulk': how many values and letters a reading holds, each counted each time it is reached (what is shared counts as often as it is met; a slice's spare places count too). A statement '..UptoSaid' is the law's where the arguments, and the package variables that the reading takes, are together of bulk at most 1048576: NARROWER than '..Said'. Prove '..Said' where nothing that the law and all that it calls make is longer than what came in: it says more and counts as full. Else prove '..UptoSaid'. A law counts once. -/
mutual
def uptoBulk {H : Type} : DataW H → Nat
  | .lit (.string bytes) => bytes.length + 1
  | .lit _ => 1
  | .nil => 1
  | .ptr d => uptoBulk d + 1
  | .slice elems spare => uptoBulkAll elems + uptoBulkAll spare + 1
  | .agg parts => uptoBulkAll parts + 1
  | .iface _ d => uptoBulk d + 1
  | .map entries => uptoBulkEntries entries + 1
  | .held _ => 1
def uptoBulkAll {H : Type} : List (DataW H) → Nat
  | [] => 0
  | d :: r => uptoBulk d + uptoBulkAll r
def uptoBulkEntries {H : Type} : List (Lit × DataW H) → Nat
  | [] => 0
  | x :: r => uptoBulkEntry x + uptoBulkEntries r
def uptoBulkEntry {H : Type} : Lit × DataW H → Nat
  | (.string bytes, d) => bytes.length + uptoBulk d + 1
  | (_, d) => uptoBulk d + 1
 end
def uptoSmall : (H : Type) → List (DataW H) → Bool := fun _ ds => decide (uptoBulkAll ds ≤ 1048576)
def OpenSpec.upto (s : _root_.Go.ChangeSpec) : _root_.Go.OpenSpec := { _root_.Go.OpenSpec.ofChange s with cond := some uptoSmall }

/-- 'perigeelaw10.PairNone', WHERE WHAT IT READS IS OF BULK AT MOST 1048576: true; the input reads as it did. -/
def pairNoneUptoRow : OpenClaim := { program := "ythknbnhchgbikaa", sum := "e40fb3d6e293e1beb3a4f2fba75d1bf76cf80100a2427842aafbf300a90df1cf", func := "perigee/perigeelaw10.PairNone", spec := "pairNone", inPlace := ["math/bits.Sub64", "math/bits.Add64"], unfollowed := true, recurses := true, apart := false, narrowed := true }
def PairNoneUptoSaid : Prop := pairNoneUptoRow.holds Try.pinned (OpenSpec.upto pairNoneSpec)

/-- 'perigeelaw10.PairEps', WHERE WHAT IT READS IS OF BULK AT MOST 1048576: true; the input reads as it did. -/
def pairEpsUptoRow : OpenClaim := { program := "ythknbnhchgbikaa", sum := "e40fb3d6e293e1beb3a4f2fba75d1bf76cf80100a2427842aafbf300a90df1cf", func := "perigee/perigeelaw10.PairEps", spec := "pairEps", inPlace := ["math/bits.Sub64", "math/bits.Add64"], unfollowed := true, recurses := true, apart := false, narrowed := true }
def PairEpsUptoSaid : Prop := pairEpsUptoRow.holds Try.pinned (OpenSpec.upto pairEpsSpec)

/-- 'perigeelaw10.PairAcross', WHERE WHAT IT READS IS OF BULK AT MOST 1048576: true; the input reads as it did. -/
def pairAcrossUptoRow : OpenClaim := { program := "ythknbnhchgbikaa", sum := "e40fb3d6e293e1beb3a4f2fba75d1bf76cf80100a2427842aafbf300a90df1cf", func := "perigee/perigeelaw10.PairAcross", spec := "pairAcross", inPlace := ["math/bits.Sub64", "math/bits.Add64"], unfollowed := true, recurses := true, apart := false, narrowed := true }
def PairAcrossUptoSaid : Prop := pairAcrossUptoRow.holds Try.pinned (OpenSpec.upto pairAcrossSpec)

/-- 'perigeelaw11.DirectAll', WHERE WHAT IT READS IS OF BULK AT MOST 1048576: true; the input reads as it did. -/
def directAllUptoRow : OpenClaim := { program := "ythknbnhchgbikaa", sum := "e40fb3d6e293e1beb3a4f2fba75d1bf76cf80100a2427842aafbf300a90df1cf", func := "perigee/perigeelaw11.DirectAll", spec := "directAll", inPlace := ["math/bits.Sub64", "math/bits.Add64"], unfollowed := true, recurses := true, apart := false, narrowed := true }
def DirectAllUptoSaid : Prop := directAllUptoRow.holds Try.pinned (OpenSpec.upto directAllSpec)

/-- 'perigeelaw11.DirectMade', WHERE WHAT IT READS IS OF BULK AT MOST 1048576: true; the input reads as it did. -/
def directMadeUptoRow : OpenClaim := { program := "ythknbnhchgbikaa", sum := "e40fb3d6e293e1beb3a4f2fba75d1bf76cf80100a2427842aafbf300a90df1cf", func := "perigee/perigeelaw11.DirectMade", spec := "directMade", inPlace := ["math/bits.Sub64", "math/bits.Add64"], unfollowed := true, recurses := true, apart := false, narrowed := true }
def DirectMadeUptoSaid : Prop := directMadeUptoRow.holds Try.pinned (OpenSpec.upto directMadeSpec)

/-- 'perigeelaw11.DirectKeeps', WHERE WHAT IT READS IS OF BULK AT MOST 1048576: true; the input reads as it did. -/
def directKeepsUptoRow : OpenClaim := { program := "ythknbnhchgbikaa", sum := "e40fb3d6e293e1beb3a4f2fba75d1bf76cf80100a2427842aafbf300a90df1cf", func := "perigee/perigeelaw11.DirectKeeps", spec := "directKeeps", inPlace := ["math/bits.Sub64", "math/bits.Add64"], unfollowed := true, recurses := true, apart := false, narrowed := true }
def DirectKeepsUptoSaid : Prop := directKeepsUptoRow.holds Try.pinned (OpenSpec.upto directKeepsSpec)

/-- 'perigeelaw11.DirectAlone', WHERE WHAT IT READS IS OF BULK AT MOST 1048576: true; the input reads as it did. -/
def directAloneUptoRow : OpenClaim := { program := "ythknbnhchgbikaa", sum := "e40fb3d6e293e1beb3a4f2fba75d1bf76cf80100a2427842aafbf300a90df1cf", func := "perigee/perigeelaw11.DirectAlone", spec := "directAlone", inPlace := ["math/bits.Sub64", "math/bits.Add64"], unfollowed := true, recurses := true, apart := false, narrowed := true }
def DirectAloneUptoSaid : Prop := directAloneUptoRow.holds Try.pinned (OpenSpec.upto directAloneSpec)

/-- 'perigeelaw11.DirectTwo', WHERE WHAT IT READS IS OF BULK AT MOST 1048576: true; the input reads as it did. -/
def directTwoUptoRow : OpenClaim := { program := "ythknbnhchgbikaa", sum := "e40fb3d6e293e1beb3a4f2fba75d1bf76cf80100a2427842aafbf300a90df1cf", func := "perigee/perigeelaw11.DirectTwo", spec := "directTwo", inPlace := ["math/bits.Sub64", "math/bits.Add64"], unfollowed := true, recurses := true, apart := false, narrowed := true }
def DirectTwoUptoSaid : Prop := directTwoUptoRow.holds Try.pinned (OpenSpec.upto directTwoSpec)

/-- 'perigeelaw9.MassAll', WHERE WHAT IT READS IS OF BULK AT MOST 1048576: true; the input reads as it did. -/
def massAllUptoRow : OpenClaim := { program := "ythknbnhchgbikaa", sum := "e40fb3d6e293e1beb3a4f2fba75d1bf76cf80100a2427842aafbf300a90df1cf", func := "perigee/perigeelaw9.MassAll", spec := "massAll", inPlace := ["math/bits.Sub64", "math/bits.Add64"], unfollowed := true, recurses := true, apart := false, narrowed := true }
def MassAllUptoSaid : Prop := massAllUptoRow.holds Try.pinned (OpenSpec.upto massAllSpec)

/-- 'perigeelaw9.MassMade', WHERE WHAT IT READS IS OF BULK AT MOST 1048576: true; the input reads as it did. -/
def massMadeUptoRow : OpenClaim := { program := "ythknbnhchgbikaa", sum := "e40fb3d6e293e1beb3a4f2fba75d1bf76cf80100a2427842aafbf300a90df1cf", func := "perigee/perigeelaw9.MassMade", spec := "massMade", inPlace := ["math/bits.Sub64", "math/bits.Add64"], unfollowed := true, recurses := true, apart := false, narrowed := true }
def MassMadeUptoSaid : Prop := massMadeUptoRow.holds Try.pinned (OpenSpec.upto massMadeSpec)

/-- 'perigeelaw18.TetherAll', WHERE WHAT IT READS IS OF BULK AT MOST 1048576: true; the input reads as it did. -/
def tetherAllUptoRow : OpenClaim := { program := "ythknbnhchgbikaa", sum := "e40fb3d6e293e1beb3a4f2fba75d1bf76cf80100a2427842aafbf300a90df1cf", func := "perigee/perigeelaw18.TetherAll", spec := "tetherAll", inPlace := ["math/bits.Sub64", "math/bits.Add64"], unfollowed := true, recurses := true, apart := false, narrowed := true }
def TetherAllUptoSaid : Prop := tetherAllUptoRow.holds Try.pinned (OpenSpec.upto tetherAllSpec)

/-- 'perigeelaw18.TetherLine', WHERE WHAT IT READS IS OF BULK AT MOST 1048576: true; the input reads as it did. -/
def tetherLineUptoRow : OpenClaim := { program := "ythknbnhchgbikaa", sum := "e40fb3d6e293e1beb3a4f2fba75d1bf76cf80100a2427842aafbf300a90df1cf", func := "perigee/perigeelaw18.TetherLine", spec := "tetherLine", inPlace := ["math/bits.Sub64", "math/bits.Add64"], unfollowed := true, recurses := true, apart := false, narrowed := true }
def TetherLineUptoSaid : Prop := tetherLineUptoRow.holds Try.pinned (OpenSpec.upto tetherLineSpec)

/-- 'perigeelaw12.WalkBack', WHERE WHAT IT READS IS OF BULK AT MOST 1048576: true; the input reads as it did. -/
def walkBackUptoRow : OpenClaim := { program := "ythknbnhchgbikaa", sum := "e40fb3d6e293e1beb3a4f2fba75d1bf76cf80100a2427842aafbf300a90df1cf", func := "perigee/perigeelaw12.WalkBack", spec := "walkBack", inPlace := ["math/bits.Sub64", "math/bits.Add64"], unfollowed := true, recurses := true, apart := false, narrowed := true }
def WalkBackUptoSaid : Prop := walkBackUptoRow.holds Try.pinned (OpenSpec.upto walkBackSpec)

/-- 'perigeelaw12.WalkNear', WHERE WHAT IT READS IS OF BULK AT MOST 1048576: true; the input reads as it did. -/
def walkNearUptoRow : OpenClaim := { program := "ythknbnhchgbikaa", sum := "e40fb3d6e293e1beb3a4f2fba75d1bf76cf80100a2427842aafbf300a90df1cf", func := "perigee/perigeelaw12.WalkNear", spec := "walkNear", inPlace := ["math/bits.Sub64", "math/bits.Add64"], unfollowed := true, recurses := true, apart := false, narrowed := true }
def WalkNearUptoSaid : Prop := walkNearUptoRow.holds Try.pinned (OpenSpec.upto walkNearSpec)

end Rows
end Go.Proofs.Ythknbnhchgbikaa

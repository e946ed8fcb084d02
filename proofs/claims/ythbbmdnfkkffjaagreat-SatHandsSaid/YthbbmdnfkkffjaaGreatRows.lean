/-
  No cell of these rows narrows 'for every input' (looked for: loops, veiled, ifaces, maps, wideKeys, modest, calm, conditions, laid).
  DERIVED. THE GIVEN ROWS OF THIS SEAT. 12 by the template 'for every input the law returns true; each argument reads behind the call as it read before'; 0 by the template 'total and deterministic' (their statements: YthbbmdnfkkffjaaGreatTotals.lean).
  GIVEN WITH THE SEED: the statements are not yours to turn. If you find one false, say at which input.
  Laid BY PROGRAM, IN A SANDBOX (cutbox-rows.mjs): the forced cells as the released guide's own fill.sh prints them over the translation ecc31973937a54fa… (all of the seat's roots in one cut). By AI agents, Wed Nov 11 2026. No macro, syntax, notation, axiom, sorry.
-/
import Derived.Test.YthbbmdnfkkffjaaGreatChecked
import GoSem.Claim
import GoSem.ClaimJoined
import GoSem.ClaimMapViews
import Derived.JoinedTies
import Derived.KernelRfl
namespace Go.Proofs.YthbbmdnfkkffjaaGreat
/- THE CELL 'sum', in the pinned program and in every row, IS THE sha256 OF THE DUMP (.gsa) THAT YthbbmdnfkkffjaaGreatProg.lean LOADS. Nothing in Lean hashes anything: it is a label: what it is worth is what the hold of that sum in a sandbox is worth. -/
noncomputable def Tryz.pinned : Pinned := { name := "ythbbmdnfkkffjaagreat", sum := "ecc31973937a54fae27ad94b26b9fac0e09e22c7291db5cf5f6b0fd3ac8a33c4", checked := Tryz.checked }
namespace Rows
def none {H : Type} : Left H := { results := [], args := [] }

/-- 'plaitlaw13.SatModels': WHATEVER THE INPUT: true; the input reads as it did. -/
def satModelsSpec : ChangeSpec := { name := "satModels", fn := fun _ => fun
  | [d] => { results := [.lit (.bool true)], args := [d] }
  | _ => none }
def satModelsRow : OpenClaim := { program := "ythbbmdnfkkffjaagreat", sum := "ecc31973937a54fae27ad94b26b9fac0e09e22c7291db5cf5f6b0fd3ac8a33c4", func := "plait/plaitlaw13.SatModels", spec := "satModels", unfollowed := true, recurses := true, apart := false }
def SatModelsSaid : Prop := satModelsRow.holds Tryz.pinned (OpenSpec.ofChange satModelsSpec)

/-- ITS FALSE NEIGHBOUR: 'it returns false'. Refute it at one input. -/
def satModelsWrong : ChangeSpec := { name := "satModels", fn := fun _ => fun
  | [d] => { results := [.lit (.bool false)], args := [d] }
  | _ => none }
def SatModelsWrongFalsely : Prop := satModelsRow.holds Tryz.pinned (OpenSpec.ofChange satModelsWrong)

/-- 'plaitlaw13.SatCores': WHATEVER THE INPUT: true; the input reads as it did. -/
def satCoresSpec : ChangeSpec := { name := "satCores", fn := fun _ => fun
  | [d] => { results := [.lit (.bool true)], args := [d] }
  | _ => none }
def satCoresRow : OpenClaim := { program := "ythbbmdnfkkffjaagreat", sum := "ecc31973937a54fae27ad94b26b9fac0e09e22c7291db5cf5f6b0fd3ac8a33c4", func := "plait/plaitlaw13.SatCores", spec := "satCores", unfollowed := true, recurses := true, apart := false }
def SatCoresSaid : Prop := satCoresRow.holds Tryz.pinned (OpenSpec.ofChange satCoresSpec)

/-- ITS FALSE NEIGHBOUR: 'it returns false'. Refute it at one input. -/
def satCoresWrong : ChangeSpec := { name := "satCores", fn := fun _ => fun
  | [d] => { results := [.lit (.bool false)], args := [d] }
  | _ => none }
def SatCoresWrongFalsely : Prop := satCoresRow.holds Tryz.pinned (OpenSpec.ofChange satCoresWrong)

/-- 'plaitlaw13.SatEnds': WHATEVER THE INPUT: true; the input reads as it did. -/
def satEndsSpec : ChangeSpec := { name := "satEnds", fn := fun _ => fun
  | [d] => { results := [.lit (.bool true)], args := [d] }
  | _ => none }
def satEndsRow : OpenClaim := { program := "ythbbmdnfkkffjaagreat", sum := "ecc31973937a54fae27ad94b26b9fac0e09e22c7291db5cf5f6b0fd3ac8a33c4", func := "plait/plaitlaw13.SatEnds", spec := "satEnds", unfollowed := true, recurses := true, apart := false }
def SatEndsSaid : Prop := satEndsRow.holds Tryz.pinned (OpenSpec.ofChange satEndsSpec)

/-- ITS FALSE NEIGHBOUR: 'it returns false'. Refute it at one input. -/
def satEndsWrong : ChangeSpec := { name := "satEnds", fn := fun _ => fun
  | [d] => { results := [.lit (.bool false)], args := [d] }
  | _ => none }
def SatEndsWrongFalsely : Prop := satEndsRow.holds Tryz.pinned (OpenSpec.ofChange satEndsWrong)

/-- 'plaitlaw13.SatAgain': WHATEVER THE INPUT: true; the input reads as it did. -/
def satAgainSpec : ChangeSpec := { name := "satAgain", fn := fun _ => fun
  | [d1, d2] => { results := [.lit (.bool true)], args := [d1, d2] }
  | _ => none }
def satAgainRow : OpenClaim := { program := "ythbbmdnfkkffjaagreat", sum := "ecc31973937a54fae27ad94b26b9fac0e09e22c7291db5cf5f6b0fd3ac8a33c4", func := "plait/plaitlaw13.SatAgain", spec := "satAgain", unfollowed := true, recurses := true, apart := false }
def SatAgainSaid : Prop := satAgainRow.holds Tryz.pinned (OpenSpec.ofChange satAgainSpec)

/-- ITS FALSE NEIGHBOUR: 'it returns false'. Refute it at one input. -/
def satAgainWrong : ChangeSpec := { name := "satAgain", fn := fun _ => fun
  | [d1, d2] => { results := [.lit (.bool false)], args := [d1, d2] }
  | _ => none }
def SatAgainWrongFalsely : Prop := satAgainRow.holds Tryz.pinned (OpenSpec.ofChange satAgainWrong)

/-- 'plaitlaw13.SatMore': WHATEVER THE INPUT: true; the input reads as it did. -/
def satMoreSpec : ChangeSpec := { name := "satMore", fn := fun _ => fun
  | [d1, d2, d3, d4] => { results := [.lit (.bool true)], args := [d1, d2, d3, d4] }
  | _ => none }
def satMoreRow : OpenClaim := { program := "ythbbmdnfkkffjaagreat", sum := "ecc31973937a54fae27ad94b26b9fac0e09e22c7291db5cf5f6b0fd3ac8a33c4", func := "plait/plaitlaw13.SatMore", spec := "satMore", unfollowed := true, recurses := true, apart := false }
def SatMoreSaid : Prop := satMoreRow.holds Tryz.pinned (OpenSpec.ofChange satMoreSpec)

/-- ITS FALSE NEIGHBOUR: 'it returns false'. Refute it at one input. -/
def satMoreWrong : ChangeSpec := { name := "satMore", fn := fun _ => fun
  | [d1, d2, d3, d4] => { results := [.lit (.bool false)], args := [d1, d2, d3, d4] }
  | _ => none }
def SatMoreWrongFalsely : Prop := satMoreRow.holds Tryz.pinned (OpenSpec.ofChange satMoreWrong)

/-- 'plaitlaw13.SatNames': WHATEVER THE INPUT: true; the input reads as it did. -/
def satNamesSpec : ChangeSpec := { name := "satNames", fn := fun _ => fun
  | [d1, d2, d3] => { results := [.lit (.bool true)], args := [d1, d2, d3] }
  | _ => none }
def satNamesRow : OpenClaim := { program := "ythbbmdnfkkffjaagreat", sum := "ecc31973937a54fae27ad94b26b9fac0e09e22c7291db5cf5f6b0fd3ac8a33c4", func := "plait/plaitlaw13.SatNames", spec := "satNames", unfollowed := true, recurses := true, apart := false }
def SatNamesSaid : Prop := satNamesRow.holds Tryz.pinned (OpenSpec.ofChange satNamesSpec)

/-- ITS FALSE NEIGHBOUR: 'it returns false'. Refute it at one input. -/
def satNamesWrong : ChangeSpec := { name := "satNames", fn := fun _ => fun
  | [d1, d2, d3] => { results := [.lit (.bool false)], args := [d1, d2, d3] }
  | _ => none }
def SatNamesWrongFalsely : Prop := satNamesRow.holds Tryz.pinned (OpenSpec.ofChange satNamesWrong)

/-- 'plaitlaw13.SatSplit': WHATEVER THE INPUT: true; the input reads as it did. -/
def satSplitSpec : ChangeSpec := { name := "satSplit", fn := fun _ => fun
  | [d1, d2] => { results := [.lit (.bool true)], args := [d1, d2] }
  | _ => none }
def satSplitRow : OpenClaim := { program := "ythbbmdnfkkffjaagreat", sum := "ecc31973937a54fae27ad94b26b9fac0e09e22c7291db5cf5f6b0fd3ac8a33c4", func := "plait/plaitlaw13.SatSplit", spec := "satSplit", unfollowed := true, recurses := true, apart := false }
def SatSplitSaid : Prop := satSplitRow.holds Tryz.pinned (OpenSpec.ofChange satSplitSpec)

/-- ITS FALSE NEIGHBOUR: 'it returns false'. Refute it at one input. -/
def satSplitWrong : ChangeSpec := { name := "satSplit", fn := fun _ => fun
  | [d1, d2] => { results := [.lit (.bool false)], args := [d1, d2] }
  | _ => none }
def SatSplitWrongFalsely : Prop := satSplitRow.holds Tryz.pinned (OpenSpec.ofChange satSplitWrong)

/-- 'plaitlaw13.SatLearned': WHATEVER THE INPUT: true; the input reads as it did. -/
def satLearnedSpec : ChangeSpec := { name := "satLearned", fn := fun _ => fun
  | [d] => { results := [.lit (.bool true)], args := [d] }
  | _ => none }
def satLearnedRow : OpenClaim := { program := "ythbbmdnfkkffjaagreat", sum := "ecc31973937a54fae27ad94b26b9fac0e09e22c7291db5cf5f6b0fd3ac8a33c4", func := "plait/plaitlaw13.SatLearned", spec := "satLearned", unfollowed := true, recurses := true, apart := false }
def SatLearnedSaid : Prop := satLearnedRow.holds Tryz.pinned (OpenSpec.ofChange satLearnedSpec)

/-- ITS FALSE NEIGHBOUR: 'it returns false'. Refute it at one input. -/
def satLearnedWrong : ChangeSpec := { name := "satLearned", fn := fun _ => fun
  | [d] => { results := [.lit (.bool false)], args := [d] }
  | _ => none }
def SatLearnedWrongFalsely : Prop := satLearnedRow.holds Tryz.pinned (OpenSpec.ofChange satLearnedWrong)

/-- 'plaitlaw13.SatParity': WHATEVER THE INPUT: true; the input reads as it did. -/
def satParitySpec : ChangeSpec := { name := "satParity", fn := fun _ => fun
  | [d1, d2] => { results := [.lit (.bool true)], args := [d1, d2] }
  | _ => none }
def satParityRow : OpenClaim := { program := "ythbbmdnfkkffjaagreat", sum := "ecc31973937a54fae27ad94b26b9fac0e09e22c7291db5cf5f6b0fd3ac8a33c4", func := "plait/plaitlaw13.SatParity", spec := "satParity", unfollowed := true, recurses := true, apart := false }
def SatParitySaid : Prop := satParityRow.holds Tryz.pinned (OpenSpec.ofChange satParitySpec)

/-- ITS FALSE NEIGHBOUR: 'it returns false'. Refute it at one input. -/
def satParityWrong : ChangeSpec := { name := "satParity", fn := fun _ => fun
  | [d1, d2] => { results := [.lit (.bool false)], args := [d1, d2] }
  | _ => none }
def SatParityWrongFalsely : Prop := satParityRow.holds Tryz.pinned (OpenSpec.ofChange satParityWrong)

/-- 'plaitlaw13.SatHands': WHATEVER THE INPUT: true; the input reads as it did. -/
def satHandsSpec : ChangeSpec := { name := "satHands", fn := fun _ => fun
  | [d] => { results := [.lit (.bool true)], args := [d] }
  | _ => none }
def satHandsRow : OpenClaim := { program := "ythbbmdnfkkffjaagreat", sum := "ecc31973937a54fae27ad94b26b9fac0e09e22c7291db5cf5f6b0fd3ac8a33c4", func := "plait/plaitlaw13.SatHands", spec := "satHands", unfollowed := true, recurses := true, apart := false }
def SatHandsSaid : Prop := satHandsRow.holds Tryz.pinned (OpenSpec.ofChange satHandsSpec)

/-- ITS FALSE NEIGHBOUR: 'it returns false'. Refute it at one input. -/
def satHandsWrong : ChangeSpec := { name := "satHands", fn := fun _ => fun
  | [d] => { results := [.lit (.bool false)], args := [d] }
  | _ => none }
def SatHandsWrongFalsely : Prop := satHandsRow.holds Tryz.pinned (OpenSpec.ofChange satHandsWrong)

/-- 'plaitlaw13.SatWords': WHATEVER THE INPUT: true; the input reads as it did. -/
def satWordsSpec : ChangeSpec := { name := "satWords", fn := fun _ => fun
  | [d] => { results := [.lit (.bool true)], args := [d] }
  | _ => none }
def satWordsRow : OpenClaim := { program := "ythbbmdnfkkffjaagreat", sum := "ecc31973937a54fae27ad94b26b9fac0e09e22c7291db5cf5f6b0fd3ac8a33c4", func := "plait/plaitlaw13.SatWords", spec := "satWords", unfollowed := true, recurses := true, apart := false }
def SatWordsSaid : Prop := satWordsRow.holds Tryz.pinned (OpenSpec.ofChange satWordsSpec)

/-- ITS FALSE NEIGHBOUR: 'it returns false'. Refute it at one input. -/
def satWordsWrong : ChangeSpec := { name := "satWords", fn := fun _ => fun
  | [d] => { results := [.lit (.bool false)], args := [d] }
  | _ => none }
def SatWordsWrongFalsely : Prop := satWordsRow.holds Tryz.pinned (OpenSpec.ofChange satWordsWrong)

/-- 'plaitlaw13.SatVerdicts': WHATEVER THE INPUT: true; the input reads as it did. -/
def satVerdictsSpec : ChangeSpec := { name := "satVerdicts", fn := fun _ => fun
  | [d1, d2, d3] => { results := [.lit (.bool true)], args := [d1, d2, d3] }
  | _ => none }
def satVerdictsRow : OpenClaim := { program := "ythbbmdnfkkffjaagreat", sum := "ecc31973937a54fae27ad94b26b9fac0e09e22c7291db5cf5f6b0fd3ac8a33c4", func := "plait/plaitlaw13.SatVerdicts", spec := "satVerdicts", unfollowed := true, recurses := true, apart := false }
def SatVerdictsSaid : Prop := satVerdictsRow.holds Tryz.pinned (OpenSpec.ofChange satVerdictsSpec)

/-- ITS FALSE NEIGHBOUR: 'it returns false'. Refute it at one input. -/
def satVerdictsWrong : ChangeSpec := { name := "satVerdicts", fn := fun _ => fun
  | [d1, d2, d3] => { results := [.lit (.bool false)], args := [d1, d2, d3] }
  | _ => none }
def SatVerdictsWrongFalsely : Prop := satVerdictsRow.holds Tryz.pinned (OpenSpec.ofChange satVerdictsWrong)

/- THE SECOND FORM. 'bulk': how many values and letters a reading holds, each counted each time it is reached (what is shared counts as often as it is met; a slice's spare places count too). A statement '..UptoSaid' is the law's where the arguments, and the package variables that the reading takes, are together of bulk at most 1048576: NARROWER than '..Said'. Prove '..Said' where nothing that the law and all that it calls make is longer than what came in: it says more and counts as full. Else prove '..UptoSaid'. A law counts once. -/
mutual
def uptoBulk {H : Type} : DataW H → Nat
  | .lit (.string bytes) => bytes.length + 1
  | .lit _ => 1
  | .nil => 1
  | .ptr d => uptoBulk d + 1
  | .slice elems spare => uptoBulkAll elems + uptoBulkAll spare + 1
  | .agg parts => uptoBulkAll parts + 1
  | .iface _ d => uptoBulk d + 1
  | .map entries => uptoBulkEntries entries + 1
  | .held _ => 1
def uptoBulkAll {H : Type} : List (DataW H) → Nat
  | [] => 0
  | d :: r => uptoBulk d + uptoBulkAll r
def uptoBulkEntries {H : Type} : List (Lit × DataW H) → Nat
  | [] => 0
  | x :: r => uptoBulkEntry x + uptoBulkEntries r
def uptoBulkEntry {H : Type} : Lit × DataW H → Nat
  | (.string bytes, d) => bytes.length + uptoBulk d + 1
  | (_, d) => uptoBulk d + 1
 end
def uptoSmall : (H : Type) → List (DataW H) → Bool := fun _ ds => decide (uptoBulkAll ds ≤ 1048576)
def OpenSpec.upto (s : _root_.Go.ChangeSpec) : _root_.Go.OpenSpec := { _root_.Go.OpenSpec.ofChange s with cond := some uptoSmall }

/-- 'plaitlaw13.SatModels', WHERE WHAT IT READS IS OF BULK AT MOST 1048576: true; the input reads as it did. -/
def satModelsUptoRow : OpenClaim := { program := "ythbbmdnfkkffjaagreat", sum := "ecc31973937a54fae27ad94b26b9fac0e09e22c7291db5cf5f6b0fd3ac8a33c4", func := "plait/plaitlaw13.SatModels", spec := "satModels", unfollowed := true, recurses := true, apart := false, narrowed := true }
def SatModelsUptoSaid : Prop := satModelsUptoRow.holds Tryz.pinned (OpenSpec.upto satModelsSpec)

/-- 'plaitlaw13.SatCores', WHERE WHAT IT READS IS OF BULK AT MOST 1048576: true; the input reads as it did. -/
def satCoresUptoRow : OpenClaim := { program := "ythbbmdnfkkffjaagreat", sum := "ecc31973937a54fae27ad94b26b9fac0e09e22c7291db5cf5f6b0fd3ac8a33c4", func := "plait/plaitlaw13.SatCores", spec := "satCores", unfollowed := true, recurses := true, apart := false, narrowed := true }
def SatCoresUptoSaid : Prop := satCoresUptoRow.holds Tryz.pinned (OpenSpec.upto satCoresSpec)

/-- 'plaitlaw13.SatEnds', WHERE WHAT IT READS IS OF BULK AT MOST 1048576: true; the input reads as it did. -/
def satEndsUptoRow : OpenClaim := { program := "ythbbmdnfkkffjaagreat", sum := "ecc31973937a54fae27ad94b26b9fac0e09e22c7291db5cf5f6b0fd3ac8a33c4", func := "plait/plaitlaw13.SatEnds", spec := "satEnds", unfollowed := true, recurses := true, apart := false, narrowed := true }
def SatEndsUptoSaid : Prop := satEndsUptoRow.holds Tryz.pinned (OpenSpec.upto satEndsSpec)

/-- 'plaitlaw13.SatAgain', WHERE WHAT IT READS IS OF BULK AT MOST 1048576: true; the input reads as it did. -/
def satAgainUptoRow : OpenClaim := { program := "ythbbmdnfkkffjaagreat", sum := "ecc31973937a54fae27ad94b26b9fac0e09e22c7291db5cf5f6b0fd3ac8a33c4", func := "plait/plaitlaw13.SatAgain", spec := "satAgain", unfollowed := true, recurses := true, apart := false, narrowed := true }
def SatAgainUptoSaid : Prop := satAgainUptoRow.holds Tryz.pinned (OpenSpec.upto satAgainSpec)

/-- 'plaitlaw13.SatMore', WHERE WHAT IT READS IS OF BULK AT MOST 1048576: true; the input reads as it did. -/
def satMoreUptoRow : OpenClaim := { program := "ythbbmdnfkkffjaagreat", sum := "ecc31973937a54fae27ad94b26b9fac0e09e22c7291db5cf5f6b0fd3ac8a33c4", func := "plait/plaitlaw13.SatMore", spec := "satMore", unfollowed := true, recurses := true, apart := false, narrowed := true }
def SatMoreUptoSaid : Prop := satMoreUptoRow.holds Tryz.pinned (OpenSpec.upto satMoreSpec)

/-- 'plaitlaw13.SatNames', WHERE WHAT IT READS IS OF BULK AT MOST 1048576: true; the input reads as it did. -/
def satNamesUptoRow : OpenClaim := { program := "ythbbmdnfkkffjaagreat", sum := "ecc31973937a54fae27ad94b26b9fac0e09e22c7291db5cf5f6b0fd3ac8a33c4", func := "plait/plaitlaw13.SatNames", spec := "satNames", unfollowed := true, recurses := true, apart := false, narrowed := true }
def SatNamesUptoSaid : Prop := satNamesUptoRow.holds Tryz.pinned (OpenSpec.upto satNamesSpec)

/-- 'plaitlaw13.SatSplit', WHERE WHAT IT READS IS OF BULK AT MOST 1048576: true; the input reads as it did. -/
def satSplitUptoRow : OpenClaim := { program := "ythbbmdnfkkffjaagreat", sum := "ecc31973937a54fae27ad94b26b9fac0e09e22c7291db5cf5f6b0fd3ac8a33c4", func := "plait/plaitlaw13.SatSplit", spec := "satSplit", unfollowed := true, recurses := true, apart := false, narrowed := true }
def SatSplitUptoSaid : Prop := satSplitUptoRow.holds Tryz.pinned (OpenSpec.upto satSplitSpec)

/-- 'plaitlaw13.SatLearned', WHERE WHAT IT READS IS OF BULK AT MOST 1048576: true; the input reads as it did. -/
def satLearnedUptoRow : OpenClaim := { program := "ythbbmdnfkkffjaagreat", sum := "ecc31973937a54fae27ad94b26b9fac0e09e22c7291db5cf5f6b0fd3ac8a33c4", func := "plait/plaitlaw13.SatLearned", spec := "satLearned", unfollowed := true, recurses := true, apart := false, narrowed := true }
def SatLearnedUptoSaid : Prop := satLearnedUptoRow.holds Tryz.pinned (OpenSpec.upto satLearnedSpec)

/-- 'plaitlaw13.SatParity', WHERE WHAT IT READS IS OF BULK AT MOST 1048576: true; the input reads as it did. -/
def satParityUptoRow : OpenClaim := { program := "ythbbmdnfkkffjaagreat", sum := "ecc31973937a54fae27ad94b26b9fac0e09e22c7291db5cf5f6b0fd3ac8a33c4", func := "plait/plaitlaw13.SatParity", spec := "satParity", unfollowed := true, recurses := true, apart := false, narrowed := true }
def SatParityUptoSaid : Prop := satParityUptoRow.holds Tryz.pinned (OpenSpec.upto satParitySpec)

/-- 'plaitlaw13.SatHands', WHERE WHAT IT READS IS OF BULK AT MOST 1048576: true; the input reads as it did. -/
def satHandsUptoRow : OpenClaim := { program := "ythbbmdnfkkffjaagreat", sum := "ecc31973937a54fae27ad94b26b9fac0e09e22c7291db5cf5f6b0fd3ac8a33c4", func := "plait/plaitlaw13.SatHands", spec := "satHands", unfollowed := true, recurses := true, apart := false, narrowed := true }
def SatHandsUptoSaid : Prop := satHandsUptoRow.holds Tryz.pinned (OpenSpec.upto satHandsSpec)

/-- 'plaitlaw13.SatWords', WHERE WHAT IT READS IS OF BULK AT MOST 1048576: true; the input reads as it did. -/
def satWordsUptoRow : OpenClaim := { program := "ythbbmdnfkkffjaagreat", sum := "ecc31973937a54fae27ad94b26b9fac0e09e22c7291db5cf5f6b0fd3ac8a33c4", func := "plait/plaitlaw13.SatWords", spec := "satWords", unfollowed := true, recurses := true, apart := false, narrowed := true }
def SatWordsUptoSaid : Prop := satWordsUptoRow.holds Tryz.pinned (OpenSpec.upto satWordsSpec)

/-- 'plaitlaw13.SatVerdicts', WHERE WHAT IT READS IS OF BULK AT MOST 1048576: true; the input reads as it did. -/
def satVerdictsUptoRow : OpenClaim := { program := "ythbbmdnfkkffjaagreat", sum := "ecc31973937a54fae27ad94b26b9fac0e09e22c7291db5cf5f6b0fd3ac8a33c4", func := "plait/plaitlaw13.SatVerdicts", spec := "satVerdicts", unfollowed := true, recurses := true, apart := false, narrowed := true }
def SatVerdictsUptoSaid : Prop := satVerdictsUptoRow.holds Tryz.pinned (OpenSpec.upto satVerdictsSpec)

end Rows
end Go.Proofs.YthbbmdnfkkffjaaGreat

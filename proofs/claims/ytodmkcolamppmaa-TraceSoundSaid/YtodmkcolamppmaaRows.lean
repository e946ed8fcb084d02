/-
  No cell of these rows narrows 'for every input' (looked for: loops, veiled, ifaces, maps, wideKeys, modest, calm, conditions, laid).
  DERIVED. THE GIVEN ROWS OF THIS SEAT. 7 by the template 'for every input the law returns true; each argument reads behind the call as it read before'; 0 by the template 'total and deterministic' (their statements: YtodmkcolamppmaaTotals.lean).
  GIVEN WITH THE SEED: the statements are not yours to turn. If you find one false, say at which input.
  Laid BY PROGRAM, IN A SANDBOX (cutbox-rows.mjs): the forced cells as the released guide's own fill.sh prints them over the translation 0720316e1f75daec… (all of the seat's roots in one cut). By AI agents, Wed Nov 11 2026. No macro, syntax, notation, axiom, sorry.
-/
import Derived.Test.YtodmkcolamppmaaChecked
import GoSem.Claim
import GoSem.ClaimJoined
import GoSem.ClaimMapViews
import Derived.JoinedTies
import Derived.KernelRfl
namespace Go.Proofs.Ytodmkcolamppmaa
/- THE CELL 'sum', in the pinned program and in every row, IS THE sha256 OF THE DUMP (.gsa) THAT YtodmkcolamppmaaProg.lean LOADS. Nothing in Lean hashes anything: it is a label: what it is worth is what the hold of that sum in a sandbox is worth. -/
noncomputable def Try.pinned : Pinned := { name := "ytodmkcolamppmaa", sum := "0720316e1f75daec91762748392e43bbc895ad0cc665f07d6d10d3b4c26a10fb", checked := Try.checked }
namespace Rows
def none {H : Type} : Left H := { results := [], args := [] }

/-- 'plaitlaw12.TraceBytes': WHATEVER THE INPUT: true; the input reads as it did. -/
def traceBytesSpec : ChangeSpec := { name := "traceBytes", fn := fun _ => fun
  | [d1, d2] => { results := [.lit (.bool true)], args := [d1, d2] }
  | _ => none }
def traceBytesRow : OpenClaim := { program := "ytodmkcolamppmaa", sum := "0720316e1f75daec91762748392e43bbc895ad0cc665f07d6d10d3b4c26a10fb", func := "plait/plaitlaw12.TraceBytes", spec := "traceBytes", unfollowed := true, recurses := true, apart := false }
def TraceBytesSaid : Prop := traceBytesRow.holds Try.pinned (OpenSpec.ofChange traceBytesSpec)

/-- ITS FALSE NEIGHBOUR: 'it returns false'. Refute it at one input. -/
def traceBytesWrong : ChangeSpec := { name := "traceBytes", fn := fun _ => fun
  | [d1, d2] => { results := [.lit (.bool false)], args := [d1, d2] }
  | _ => none }
def TraceBytesWrongFalsely : Prop := traceBytesRow.holds Try.pinned (OpenSpec.ofChange traceBytesWrong)

/-- 'plaitlaw12.TraceDerives': WHATEVER THE INPUT: true; the input reads as it did. -/
def traceDerivesSpec : ChangeSpec := { name := "traceDerives", fn := fun _ => fun
  | [d1, d2] => { results := [.lit (.bool true)], args := [d1, d2] }
  | _ => none }
def traceDerivesRow : OpenClaim := { program := "ytodmkcolamppmaa", sum := "0720316e1f75daec91762748392e43bbc895ad0cc665f07d6d10d3b4c26a10fb", func := "plait/plaitlaw12.TraceDerives", spec := "traceDerives", unfollowed := true, recurses := true, apart := false }
def TraceDerivesSaid : Prop := traceDerivesRow.holds Try.pinned (OpenSpec.ofChange traceDerivesSpec)

/-- ITS FALSE NEIGHBOUR: 'it returns false'. Refute it at one input. -/
def traceDerivesWrong : ChangeSpec := { name := "traceDerives", fn := fun _ => fun
  | [d1, d2] => { results := [.lit (.bool false)], args := [d1, d2] }
  | _ => none }
def TraceDerivesWrongFalsely : Prop := traceDerivesRow.holds Try.pinned (OpenSpec.ofChange traceDerivesWrong)

/-- 'plaitlaw12.TraceChecks': WHATEVER THE INPUT: true; the input reads as it did. -/
def traceChecksSpec : ChangeSpec := { name := "traceChecks", fn := fun _ => fun
  | [d1, d2] => { results := [.lit (.bool true)], args := [d1, d2] }
  | _ => none }
def traceChecksRow : OpenClaim := { program := "ytodmkcolamppmaa", sum := "0720316e1f75daec91762748392e43bbc895ad0cc665f07d6d10d3b4c26a10fb", func := "plait/plaitlaw12.TraceChecks", spec := "traceChecks", unfollowed := true, recurses := true, apart := false }
def TraceChecksSaid : Prop := traceChecksRow.holds Try.pinned (OpenSpec.ofChange traceChecksSpec)

/-- ITS FALSE NEIGHBOUR: 'it returns false'. Refute it at one input. -/
def traceChecksWrong : ChangeSpec := { name := "traceChecks", fn := fun _ => fun
  | [d1, d2] => { results := [.lit (.bool false)], args := [d1, d2] }
  | _ => none }
def TraceChecksWrongFalsely : Prop := traceChecksRow.holds Try.pinned (OpenSpec.ofChange traceChecksWrong)

/-- 'plaitlaw12.TraceSound': WHATEVER THE INPUT: true; the input reads as it did. -/
def traceSoundSpec : ChangeSpec := { name := "traceSound", fn := fun _ => fun
  | [d1, d2, d3] => { results := [.lit (.bool true)], args := [d1, d2, d3] }
  | _ => none }
def traceSoundRow : OpenClaim := { program := "ytodmkcolamppmaa", sum := "0720316e1f75daec91762748392e43bbc895ad0cc665f07d6d10d3b4c26a10fb", func := "plait/plaitlaw12.TraceSound", spec := "traceSound", unfollowed := true, recurses := true, apart := false }
def TraceSoundSaid : Prop := traceSoundRow.holds Try.pinned (OpenSpec.ofChange traceSoundSpec)

/-- ITS FALSE NEIGHBOUR: 'it returns false'. Refute it at one input. -/
def traceSoundWrong : ChangeSpec := { name := "traceSound", fn := fun _ => fun
  | [d1, d2, d3] => { results := [.lit (.bool false)], args := [d1, d2, d3] }
  | _ => none }
def TraceSoundWrongFalsely : Prop := traceSoundRow.holds Try.pinned (OpenSpec.ofChange traceSoundWrong)

/-- 'plaitlaw12.TraceTrims': WHATEVER THE INPUT: true; the input reads as it did. -/
def traceTrimsSpec : ChangeSpec := { name := "traceTrims", fn := fun _ => fun
  | [d1, d2] => { results := [.lit (.bool true)], args := [d1, d2] }
  | _ => none }
def traceTrimsRow : OpenClaim := { program := "ytodmkcolamppmaa", sum := "0720316e1f75daec91762748392e43bbc895ad0cc665f07d6d10d3b4c26a10fb", func := "plait/plaitlaw12.TraceTrims", spec := "traceTrims", unfollowed := true, recurses := true, apart := false }
def TraceTrimsSaid : Prop := traceTrimsRow.holds Try.pinned (OpenSpec.ofChange traceTrimsSpec)

/-- ITS FALSE NEIGHBOUR: 'it returns false'. Refute it at one input. -/
def traceTrimsWrong : ChangeSpec := { name := "traceTrims", fn := fun _ => fun
  | [d1, d2] => { results := [.lit (.bool false)], args := [d1, d2] }
  | _ => none }
def TraceTrimsWrongFalsely : Prop := traceTrimsRow.holds Try.pinned (OpenSpec.ofChange traceTrimsWrong)

/-- 'plaitlaw12.TraceShifts': WHATEVER THE INPUT: true; the input reads as it did. -/
def traceShiftsSpec : ChangeSpec := { name := "traceShifts", fn := fun _ => fun
  | [d1, d2, d3] => { results := [.lit (.bool true)], args := [d1, d2, d3] }
  | _ => none }
def traceShiftsRow : OpenClaim := { program := "ytodmkcolamppmaa", sum := "0720316e1f75daec91762748392e43bbc895ad0cc665f07d6d10d3b4c26a10fb", func := "plait/plaitlaw12.TraceShifts", spec := "traceShifts", unfollowed := true, recurses := true, apart := false }
def TraceShiftsSaid : Prop := traceShiftsRow.holds Try.pinned (OpenSpec.ofChange traceShiftsSpec)

/-- ITS FALSE NEIGHBOUR: 'it returns false'. Refute it at one input. -/
def traceShiftsWrong : ChangeSpec := { name := "traceShifts", fn := fun _ => fun
  | [d1, d2, d3] => { results := [.lit (.bool false)], args := [d1, d2, d3] }
  | _ => none }
def TraceShiftsWrongFalsely : Prop := traceShiftsRow.holds Try.pinned (OpenSpec.ofChange traceShiftsWrong)

/-- 'plaitlaw12.TraceNames': WHATEVER THE INPUT: true; the input reads as it did. -/
def traceNamesSpec : ChangeSpec := { name := "traceNames", fn := fun _ => fun
  | [d1, d2, d3, d4] => { results := [.lit (.bool true)], args := [d1, d2, d3, d4] }
  | _ => none }
def traceNamesRow : OpenClaim := { program := "ytodmkcolamppmaa", sum := "0720316e1f75daec91762748392e43bbc895ad0cc665f07d6d10d3b4c26a10fb", func := "plait/plaitlaw12.TraceNames", spec := "traceNames", unfollowed := true, recurses := true, apart := false }
def TraceNamesSaid : Prop := traceNamesRow.holds Try.pinned (OpenSpec.ofChange traceNamesSpec)

/-- ITS FALSE NEIGHBOUR: 'it returns false'. Refute it at one input. -/
def traceNamesWrong : ChangeSpec := { name := "traceNames", fn := fun _ => fun
  | [d1, d2, d3, d4] => { results := [.lit (.bool false)], args := [d1, d2, d3, d4] }
  | _ => none }
def TraceNamesWrongFalsely : Prop := traceNamesRow.holds Try.pinned (OpenSpec.ofChange traceNamesWrong)

/- THE SECOND FORM. 'bulk': how many values and letters a reading holds, each counted each time it is reached (what is shared counts as often as it is met; a slice's spare places count too). A statement '..UptoSaid' is the law's where the arguments, and the package variables that the reading takes, are together of bulk at most 1048576: NARROWER than '..Said'. Prove '..Said' where nothing that the law and all that it calls make is longer than what came in: it says more and counts as full. Else prove '..UptoSaid'. A law counts once. -/
mutual
def uptoBulk {H : Type} : DataW H → Nat
  | .lit (.string bytes) => bytes.length + 1
  | .lit _ => 1
  | .nil => 1
  | .ptr d => uptoBulk d + 1
  | .slice elems spare => uptoBulkAll elems + uptoBulkAll spare + 1
  | .agg parts => uptoBulkAll parts + 1
  | .iface _ d => uptoBulk d + 1
  | .map entries => uptoBulkEntries entries + 1
  | .held _ => 1
def uptoBulkAll {H : Type} : List (DataW H) → Nat
  | [] => 0
  | d :: r => uptoBulk d + uptoBulkAll r
def uptoBulkEntries {H : Type} : List (Lit × DataW H) → Nat
  | [] => 0
  | x :: r => uptoBulkEntry x + uptoBulkEntries r
def uptoBulkEntry {H : Type} : Lit × DataW H → Nat
  | (.string bytes, d) => bytes.length + uptoBulk d + 1
  | (_, d) => uptoBulk d + 1
 end
def uptoSmall : (H : Type) → List (DataW H) → Bool := fun _ ds => decide (uptoBulkAll ds ≤ 1048576)
def OpenSpec.upto (s : _root_.Go.ChangeSpec) : _root_.Go.OpenSpec := { _root_.Go.OpenSpec.ofChange s with cond := some uptoSmall }

/-- 'plaitlaw12.TraceBytes', WHERE WHAT IT READS IS OF BULK AT MOST 1048576: true; the input reads as it did. -/
def traceBytesUptoRow : OpenClaim := { program := "ytodmkcolamppmaa", sum := "0720316e1f75daec91762748392e43bbc895ad0cc665f07d6d10d3b4c26a10fb", func := "plait/plaitlaw12.TraceBytes", spec := "traceBytes", unfollowed := true, recurses := true, apart := false, narrowed := true }
def TraceBytesUptoSaid : Prop := traceBytesUptoRow.holds Try.pinned (OpenSpec.upto traceBytesSpec)

/-- 'plaitlaw12.TraceDerives', WHERE WHAT IT READS IS OF BULK AT MOST 1048576: true; the input reads as it did. -/
def traceDerivesUptoRow : OpenClaim := { program := "ytodmkcolamppmaa", sum := "0720316e1f75daec91762748392e43bbc895ad0cc665f07d6d10d3b4c26a10fb", func := "plait/plaitlaw12.TraceDerives", spec := "traceDerives", unfollowed := true, recurses := true, apart := false, narrowed := true }
def TraceDerivesUptoSaid : Prop := traceDerivesUptoRow.holds Try.pinned (OpenSpec.upto traceDerivesSpec)

/-- 'plaitlaw12.TraceChecks', WHERE WHAT IT READS IS OF BULK AT MOST 1048576: true; the input reads as it did. -/
def traceChecksUptoRow : OpenClaim := { program := "ytodmkcolamppmaa", sum := "0720316e1f75daec91762748392e43bbc895ad0cc665f07d6d10d3b4c26a10fb", func := "plait/plaitlaw12.TraceChecks", spec := "traceChecks", unfollowed := true, recurses := true, apart := false, narrowed := true }
def TraceChecksUptoSaid : Prop := traceChecksUptoRow.holds Try.pinned (OpenSpec.upto traceChecksSpec)

/-- 'plaitlaw12.TraceSound', WHERE WHAT IT READS IS OF BULK AT MOST 1048576: true; the input reads as it did. -/
def traceSoundUptoRow : OpenClaim := { program := "ytodmkcolamppmaa", sum := "0720316e1f75daec91762748392e43bbc895ad0cc665f07d6d10d3b4c26a10fb", func := "plait/plaitlaw12.TraceSound", spec := "traceSound", unfollowed := true, recurses := true, apart := false, narrowed := true }
def TraceSoundUptoSaid : Prop := traceSoundUptoRow.holds Try.pinned (OpenSpec.upto traceSoundSpec)

/-- 'plaitlaw12.TraceTrims', WHERE WHAT IT READS IS OF BULK AT MOST 1048576: true; the input reads as it did. -/
def traceTrimsUptoRow : OpenClaim := { program := "ytodmkcolamppmaa", sum := "0720316e1f75daec91762748392e43bbc895ad0cc665f07d6d10d3b4c26a10fb", func := "plait/plaitlaw12.TraceTrims", spec := "traceTrims", unfollowed := true, recurses := true, apart := false, narrowed := true }
def TraceTrimsUptoSaid : Prop := traceTrimsUptoRow.holds Try.pinned (OpenSpec.upto traceTrimsSpec)

/-- 'plaitlaw12.TraceShifts', WHERE WHAT IT READS IS OF BULK AT MOST 1048576: true; the input reads as it did. -/
def traceShiftsUptoRow : OpenClaim := { program := "ytodmkcolamppmaa", sum := "0720316e1f75daec91762748392e43bbc895ad0cc665f07d6d10d3b4c26a10fb", func := "plait/plaitlaw12.TraceShifts", spec := "traceShifts", unfollowed := true, recurses := true, apart := false, narrowed := true }
def TraceShiftsUptoSaid : Prop := traceShiftsUptoRow.holds Try.pinned (OpenSpec.upto traceShiftsSpec)

/-- 'plaitlaw12.TraceNames', WHERE WHAT IT READS IS OF BULK AT MOST 1048576: true; the input reads as it did. -/
def traceNamesUptoRow : OpenClaim := { program := "ytodmkcolamppmaa", sum := "0720316e1f75daec91762748392e43bbc895ad0cc665f07d6d10d3b4c26a10fb", func := "plait/plaitlaw12.TraceNames", spec := "traceNames", unfollowed := true, recurses := true, apart := false, narrowed := true }
def TraceNamesUptoSaid : Prop := traceNamesUptoRow.holds Try.pinned (OpenSpec.upto traceNamesSpec)

end Rows
end Go.Proofs.Ytodmkcolamppmaa

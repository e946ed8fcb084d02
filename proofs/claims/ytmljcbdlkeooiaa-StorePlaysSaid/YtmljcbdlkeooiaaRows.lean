/-
  No cell of these rows narrows 'for every input' (looked for: loops, veiled, ifaces, maps, wideKeys, modest, calm, conditions, laid).
  DERIVED. THE GIVEN ROWS OF THIS SEAT. 6 by the template 'for every input the law returns true; each argument reads behind the call as it read before'; 0 by the template 'total and deterministic' (their statements: YtmljcbdlkeooiaaTotals.lean).
  GIVEN WITH THE SEED: the statements are not yours to turn. If you find one false, say at which input.
  Laid BY PROGRAM, IN A SANDBOX (cutbox-rows.mjs): the forced cells as the released guide's own fill.sh prints them over the translation a5874aed640153c2… (all of the seat's roots in one cut). By AI agents, Wed Nov 11 2026. No macro, syntax, notation, axiom, sorry.
-/
import Derived.Test.YtmljcbdlkeooiaaChecked
import GoSem.Claim
import GoSem.ClaimJoined
import GoSem.ClaimMapViews
import Derived.JoinedTies
import Derived.KernelRfl
namespace Go.Proofs.Ytmljcbdlkeooiaa
/- THE CELL 'sum', in the pinned program and in every row, IS THE sha256 OF THE DUMP (.gsa) THAT YtmljcbdlkeooiaaProg.lean LOADS. Nothing in Lean hashes anything: it is a label: what it is worth is what the hold of that sum in a sandbox is worth. -/
noncomputable def Try.pinned : Pinned := { name := "ytmljcbdlkeooiaa", sum := "a5874aed640153c2613e02289d11c19b0103ea6f638b51c8ee0526f1fae0011b", checked := Try.checked }
namespace Rows
def none {H : Type} : Left H := { results := [], args := [] }

/-- 'plaitlaw11.StorePlays': WHATEVER THE INPUT: true; the input reads as it did. -/
def storePlaysSpec : ChangeSpec := { name := "storePlays", fn := fun _ => fun
  | [d1, d2] => { results := [.lit (.bool true)], args := [d1, d2] }
  | _ => none }
def storePlaysRow : OpenClaim := { program := "ytmljcbdlkeooiaa", sum := "a5874aed640153c2613e02289d11c19b0103ea6f638b51c8ee0526f1fae0011b", func := "plait/plaitlaw11.StorePlays", spec := "storePlays", unfollowed := true, recurses := true, apart := false }
def StorePlaysSaid : Prop := storePlaysRow.holds Try.pinned (OpenSpec.ofChange storePlaysSpec)

/-- ITS FALSE NEIGHBOUR: 'it returns false'. Refute it at one input. -/
def storePlaysWrong : ChangeSpec := { name := "storePlays", fn := fun _ => fun
  | [d1, d2] => { results := [.lit (.bool false)], args := [d1, d2] }
  | _ => none }
def StorePlaysWrongFalsely : Prop := storePlaysRow.holds Try.pinned (OpenSpec.ofChange storePlaysWrong)

/-- 'plaitlaw11.StoreFollow': WHATEVER THE INPUT: true; the input reads as it did. -/
def storeFollowSpec : ChangeSpec := { name := "storeFollow", fn := fun _ => fun
  | [d1, d2] => { results := [.lit (.bool true)], args := [d1, d2] }
  | _ => none }
def storeFollowRow : OpenClaim := { program := "ytmljcbdlkeooiaa", sum := "a5874aed640153c2613e02289d11c19b0103ea6f638b51c8ee0526f1fae0011b", func := "plait/plaitlaw11.StoreFollow", spec := "storeFollow", unfollowed := true, recurses := true, apart := false }
def StoreFollowSaid : Prop := storeFollowRow.holds Try.pinned (OpenSpec.ofChange storeFollowSpec)

/-- ITS FALSE NEIGHBOUR: 'it returns false'. Refute it at one input. -/
def storeFollowWrong : ChangeSpec := { name := "storeFollow", fn := fun _ => fun
  | [d1, d2] => { results := [.lit (.bool false)], args := [d1, d2] }
  | _ => none }
def StoreFollowWrongFalsely : Prop := storeFollowRow.holds Try.pinned (OpenSpec.ofChange storeFollowWrong)

/-- 'plaitlaw11.StoreOrder': WHATEVER THE INPUT: true; the input reads as it did. -/
def storeOrderSpec : ChangeSpec := { name := "storeOrder", fn := fun _ => fun
  | [d1, d2] => { results := [.lit (.bool true)], args := [d1, d2] }
  | _ => none }
def storeOrderRow : OpenClaim := { program := "ytmljcbdlkeooiaa", sum := "a5874aed640153c2613e02289d11c19b0103ea6f638b51c8ee0526f1fae0011b", func := "plait/plaitlaw11.StoreOrder", spec := "storeOrder", unfollowed := true, recurses := true, apart := false }
def StoreOrderSaid : Prop := storeOrderRow.holds Try.pinned (OpenSpec.ofChange storeOrderSpec)

/-- ITS FALSE NEIGHBOUR: 'it returns false'. Refute it at one input. -/
def storeOrderWrong : ChangeSpec := { name := "storeOrder", fn := fun _ => fun
  | [d1, d2] => { results := [.lit (.bool false)], args := [d1, d2] }
  | _ => none }
def StoreOrderWrongFalsely : Prop := storeOrderRow.holds Try.pinned (OpenSpec.ofChange storeOrderWrong)

/-- 'plaitlaw11.StoreMore': WHATEVER THE INPUT: true; the input reads as it did. -/
def storeMoreSpec : ChangeSpec := { name := "storeMore", fn := fun _ => fun
  | [d1, d2, d3, d4] => { results := [.lit (.bool true)], args := [d1, d2, d3, d4] }
  | _ => none }
def storeMoreRow : OpenClaim := { program := "ytmljcbdlkeooiaa", sum := "a5874aed640153c2613e02289d11c19b0103ea6f638b51c8ee0526f1fae0011b", func := "plait/plaitlaw11.StoreMore", spec := "storeMore", unfollowed := true, recurses := true, apart := false }
def StoreMoreSaid : Prop := storeMoreRow.holds Try.pinned (OpenSpec.ofChange storeMoreSpec)

/-- ITS FALSE NEIGHBOUR: 'it returns false'. Refute it at one input. -/
def storeMoreWrong : ChangeSpec := { name := "storeMore", fn := fun _ => fun
  | [d1, d2, d3, d4] => { results := [.lit (.bool false)], args := [d1, d2, d3, d4] }
  | _ => none }
def StoreMoreWrongFalsely : Prop := storeMoreRow.holds Try.pinned (OpenSpec.ofChange storeMoreWrong)

/-- 'plaitlaw11.StoreChain': WHATEVER THE INPUT: true; the input reads as it did. -/
def storeChainSpec : ChangeSpec := { name := "storeChain", fn := fun _ => fun
  | [d1, d2] => { results := [.lit (.bool true)], args := [d1, d2] }
  | _ => none }
def storeChainRow : OpenClaim := { program := "ytmljcbdlkeooiaa", sum := "a5874aed640153c2613e02289d11c19b0103ea6f638b51c8ee0526f1fae0011b", func := "plait/plaitlaw11.StoreChain", spec := "storeChain", unfollowed := true, recurses := true, apart := false }
def StoreChainSaid : Prop := storeChainRow.holds Try.pinned (OpenSpec.ofChange storeChainSpec)

/-- ITS FALSE NEIGHBOUR: 'it returns false'. Refute it at one input. -/
def storeChainWrong : ChangeSpec := { name := "storeChain", fn := fun _ => fun
  | [d1, d2] => { results := [.lit (.bool false)], args := [d1, d2] }
  | _ => none }
def StoreChainWrongFalsely : Prop := storeChainRow.holds Try.pinned (OpenSpec.ofChange storeChainWrong)

/-- 'plaitlaw11.StoreStays': WHATEVER THE INPUT: true; the input reads as it did. -/
def storeStaysSpec : ChangeSpec := { name := "storeStays", fn := fun _ => fun
  | [d1, d2, d3] => { results := [.lit (.bool true)], args := [d1, d2, d3] }
  | _ => none }
def storeStaysRow : OpenClaim := { program := "ytmljcbdlkeooiaa", sum := "a5874aed640153c2613e02289d11c19b0103ea6f638b51c8ee0526f1fae0011b", func := "plait/plaitlaw11.StoreStays", spec := "storeStays", unfollowed := true, recurses := true, apart := false }
def StoreStaysSaid : Prop := storeStaysRow.holds Try.pinned (OpenSpec.ofChange storeStaysSpec)

/-- ITS FALSE NEIGHBOUR: 'it returns false'. Refute it at one input. -/
def storeStaysWrong : ChangeSpec := { name := "storeStays", fn := fun _ => fun
  | [d1, d2, d3] => { results := [.lit (.bool false)], args := [d1, d2, d3] }
  | _ => none }
def StoreStaysWrongFalsely : Prop := storeStaysRow.holds Try.pinned (OpenSpec.ofChange storeStaysWrong)

/- THE SECOND FORM. 'bulk': how many values and letters a reading holds, each counted each time it is reached (what is shared counts as often as it is met; a slice's spare places count too). A statement '..UptoSaid' is the law's where the arguments, and the package variables that the reading takes, are together of bulk at most 1048576: NARROWER than '..Said'. Prove '..Said' where nothing that the law and all that it calls make is longer than what came in: it says more and counts as full. Else prove '..UptoSaid'. A law counts once. -/
mutual
def uptoBulk {H : Type} : DataW H → Nat
  | .lit (.string bytes) => bytes.length + 1
  | .lit _ => 1
  | .nil => 1
  | .ptr d => uptoBulk d + 1
  | .slice elems spare => uptoBulkAll elems + uptoBulkAll spare + 1
  | .agg parts => uptoBulkAll parts + 1
  | .iface _ d => uptoBulk d + 1
  | .map entries => uptoBulkEntries entries + 1
  | .held _ => 1
def uptoBulkAll {H : Type} : List (DataW H) → Nat
  | [] => 0
  | d :: r => uptoBulk d + uptoBulkAll r
def uptoBulkEntries {H : Type} : List (Lit × DataW H) → Nat
  | [] => 0
  | x :: r => uptoBulkEntry x + uptoBulkEntries r
def uptoBulkEntry {H : Type} : Lit × DataW H → Nat
  | (.string bytes, d) => bytes.length + uptoBulk d + 1
  | (_, d) => uptoBulk d + 1
 end
def uptoSmall : (H : Type) → List (DataW H) → Bool := fun _ ds => decide (uptoBulkAll ds ≤ 1048576)
def OpenSpec.upto (s : _root_.Go.ChangeSpec) : _root_.Go.OpenSpec := { _root_.Go.OpenSpec.ofChange s with cond := some uptoSmall }

/-- 'plaitlaw11.StorePlays', WHERE WHAT IT READS IS OF BULK AT MOST 1048576: true; the input reads as it did. -/
def storePlaysUptoRow : OpenClaim := { program := "ytmljcbdlkeooiaa", sum := "a5874aed640153c2613e02289d11c19b0103ea6f638b51c8ee0526f1fae0011b", func := "plait/plaitlaw11.StorePlays", spec := "storePlays", unfollowed := true, recurses := true, apart := false, narrowed := true }
def StorePlaysUptoSaid : Prop := storePlaysUptoRow.holds Try.pinned (OpenSpec.upto storePlaysSpec)

/-- 'plaitlaw11.StoreFollow', WHERE WHAT IT READS IS OF BULK AT MOST 1048576: true; the input reads as it did. -/
def storeFollowUptoRow : OpenClaim := { program := "ytmljcbdlkeooiaa", sum := "a5874aed640153c2613e02289d11c19b0103ea6f638b51c8ee0526f1fae0011b", func := "plait/plaitlaw11.StoreFollow", spec := "storeFollow", unfollowed := true, recurses := true, apart := false, narrowed := true }
def StoreFollowUptoSaid : Prop := storeFollowUptoRow.holds Try.pinned (OpenSpec.upto storeFollowSpec)

/-- 'plaitlaw11.StoreOrder', WHERE WHAT IT READS IS OF BULK AT MOST 1048576: true; the input reads as it did. -/
def storeOrderUptoRow : OpenClaim := { program := "ytmljcbdlkeooiaa", sum := "a5874aed640153c2613e02289d11c19b0103ea6f638b51c8ee0526f1fae0011b", func := "plait/plaitlaw11.StoreOrder", spec := "storeOrder", unfollowed := true, recurses := true, apart := false, narrowed := true }
def StoreOrderUptoSaid : Prop := storeOrderUptoRow.holds Try.pinned (OpenSpec.upto storeOrderSpec)

/-- 'plaitlaw11.StoreMore', WHERE WHAT IT READS IS OF BULK AT MOST 1048576: true; the input reads as it did. -/
def storeMoreUptoRow : OpenClaim := { program := "ytmljcbdlkeooiaa", sum := "a5874aed640153c2613e02289d11c19b0103ea6f638b51c8ee0526f1fae0011b", func := "plait/plaitlaw11.StoreMore", spec := "storeMore", unfollowed := true, recurses := true, apart := false, narrowed := true }
def StoreMoreUptoSaid : Prop := storeMoreUptoRow.holds Try.pinned (OpenSpec.upto storeMoreSpec)

/-- 'plaitlaw11.StoreChain', WHERE WHAT IT READS IS OF BULK AT MOST 1048576: true; the input reads as it did. -/
def storeChainUptoRow : OpenClaim := { program := "ytmljcbdlkeooiaa", sum := "a5874aed640153c2613e02289d11c19b0103ea6f638b51c8ee0526f1fae0011b", func := "plait/plaitlaw11.StoreChain", spec := "storeChain", unfollowed := true, recurses := true, apart := false, narrowed := true }
def StoreChainUptoSaid : Prop := storeChainUptoRow.holds Try.pinned (OpenSpec.upto storeChainSpec)

/-- 'plaitlaw11.StoreStays', WHERE WHAT IT READS IS OF BULK AT MOST 1048576: true; the input reads as it did. -/
def storeStaysUptoRow : OpenClaim := { program := "ytmljcbdlkeooiaa", sum := "a5874aed640153c2613e02289d11c19b0103ea6f638b51c8ee0526f1fae0011b", func := "plait/plaitlaw11.StoreStays", spec := "storeStays", unfollowed := true, recurses := true, apart := false, narrowed := true }
def StoreStaysUptoSaid : Prop := storeStaysUptoRow.holds Try.pinned (OpenSpec.upto storeStaysSpec)

end Rows
end Go.Proofs.Ytmljcbdlkeooiaa

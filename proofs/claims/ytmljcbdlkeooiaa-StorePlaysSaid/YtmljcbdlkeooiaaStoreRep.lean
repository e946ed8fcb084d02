/-
  How the store lies in memory.
-/
import Derived.Test.YtmljcbdlkeooiaaStoreM
import Derived.Test.YtmljcbdlkeooiaaHelp
namespace Go.Proofs.Ytmljcbdlkeooiaa
open Go.RowKit Go.Proofs.PlaitSep Go.Proofs.PlaitPure

/-- A slice of places that is owned. -/
def natInts (l : List Nat) : List Int := l.map fun (i : Nat) => (i : Int)
@[simp] theorem natInts_length (l : List Nat) : (natInts l).length = l.length := by simp [natInts]
/-- Where the parts of a store lie. -/
structure SLay where
  wv : Option Nat
  wc : Nat
  bv : Option Nat
  bc : Nat
  av : Option Nat
  ac : Nat
  sv : Option Nat
  sc : Nat
  W : List (Option Nat × Nat × List Nat)
def outer (W : List (Option Nat × Nat × List Nat)) : List Value := W.map fun x => slv x.1 x.2.2.length x.2.1
def inner (W : List (Option Nat × Nat × List Nat)) : List HP := W.map fun x => sli 3 x.1 x.2.1 (natInts x.2.2)
def storeCells (L : SLay) (S : SM) : List Value :=
  [.int .i64 S.most, slv L.wv S.words.length L.wc, slv L.bv S.cls.length L.bc, slv L.av L.W.length L.ac, slv L.sv S.short.length L.sc]
def storeHP (p : Nat) (L : SLay) (S : SM) : HP :=
  star (pt p 54 (storeCells L S)) (star (sli 3 L.wv L.wc S.words) (star (sli 3 L.bv L.bc S.begins) (star (sl L.av L.W.length L.ac 27 1 (outer L.W)) (star (sli 3 L.sv L.sc S.short) (stars (inner L.W))))))
/-- The store S lies at p. -/
structure StoreAt (B : Nat) (w0 w : World) (p : Nat) (L : SLay) (S : SM) (F : HP) : Prop where
  st : St B w0 w (star (storeHP p L S) F)
  ws : L.W.map (fun x => x.2.2) = S.watches
theorem StoreAt.drawn {B : Nat} {w0 w w' : World} {p : Nat} {L : SLay} {S : SM} {F : HP} (h : StoreAt B w0 w p L S F) (d : Drawn w w') : StoreAt B w0 w' p L S F := ⟨h.st.drawn d, h.ws⟩
section
variable {B : Nat} {w0 w : World} {p : Nat} {L : SLay} {S : SM} {F : HP}
theorem StoreAt.tpt (h : StoreAt B w0 w p L S F) : St B w0 w (star (pt p 54 (storeCells L S)) (star (star (sli 3 L.wv L.wc S.words) (star (sli 3 L.bv L.bc S.begins) (star (sl L.av L.W.length L.ac 27 1 (outer L.W)) (star (sli 3 L.sv L.sc S.short) (stars (inner L.W)))))) F)) :=
  h.st.conseq (by unfold storeHP; ac_rfl)
theorem StoreAt.twords (h : StoreAt B w0 w p L S F) : St B w0 w (star (sli 3 L.wv L.wc S.words) (star (star (pt p 54 (storeCells L S)) (star (sli 3 L.bv L.bc S.begins) (star (sl L.av L.W.length L.ac 27 1 (outer L.W)) (star (sli 3 L.sv L.sc S.short) (stars (inner L.W)))))) F)) :=
  h.st.conseq (by unfold storeHP; ac_rfl)
theorem StoreAt.tbegins (h : StoreAt B w0 w p L S F) : St B w0 w (star (sli 3 L.bv L.bc S.begins) (star (star (pt p 54 (storeCells L S)) (star (sli 3 L.wv L.wc S.words) (star (sl L.av L.W.length L.ac 27 1 (outer L.W)) (star (sli 3 L.sv L.sc S.short) (stars (inner L.W)))))) F)) :=
  h.st.conseq (by unfold storeHP; ac_rfl)
theorem StoreAt.touter (h : StoreAt B w0 w p L S F) : St B w0 w (star (sl L.av L.W.length L.ac 27 1 (outer L.W)) (star (star (pt p 54 (storeCells L S)) (star (sli 3 L.wv L.wc S.words) (star (sli 3 L.bv L.bc S.begins) (star (sli 3 L.sv L.sc S.short) (stars (inner L.W)))))) F)) :=
  h.st.conseq (by unfold storeHP; ac_rfl)
theorem StoreAt.tshort (h : StoreAt B w0 w p L S F) : St B w0 w (star (sli 3 L.sv L.sc S.short) (star (star (pt p 54 (storeCells L S)) (star (sli 3 L.wv L.wc S.words) (star (sli 3 L.bv L.bc S.begins) (star (sl L.av L.W.length L.ac 27 1 (outer L.W)) (stars (inner L.W)))))) F)) :=
  h.st.conseq (by unfold storeHP; ac_rfl)
theorem StoreAt.tlen (h : StoreAt B w0 w p L S F) : L.W.length = S.watches.length := by rw [← h.ws]; simp
/-- The rest of a store beside its lists of watches. -/
def restHP (p : Nat) (L : SLay) (S : SM) (cs : List Value) : HP :=
  star (pt p 54 cs) (star (sli 3 L.wv L.wc S.words) (star (sli 3 L.bv L.bc S.begins) (sli 3 L.sv L.sc S.short)))
theorem sli_nil (t : TypeId) : sli t none 0 [] = emp := by
  funext h
  apply propext
  exact ⟨fun k => k.2.2.2, fun k => ⟨rfl, rfl, rfl, k⟩⟩
theorem inner_append (W V : List (Option Nat × Nat × List Nat)) : inner (W ++ V) = inner W ++ inner V := by simp [inner]
theorem outer_append (W V : List (Option Nat × Nat × List Nat)) : outer (W ++ V) = outer W ++ outer V := by simp [outer]
theorem outer_length (W : List (Option Nat × Nat × List Nat)) : (outer W).length = W.length := by simp [outer]
end
end Go.Proofs.Ytmljcbdlkeooiaa

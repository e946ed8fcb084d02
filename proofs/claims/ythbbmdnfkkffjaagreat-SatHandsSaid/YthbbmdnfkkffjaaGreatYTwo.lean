/-
  Two solvers beside one another.
-/
import Derived.Test.YthbbmdnfkkffjaaGreatY44
import Derived.Test.YthbbmdnfkkffjaaGreatY01
set_option maxHeartbeats 8000000
set_option maxRecDepth 100000
namespace Go.Proofs.YthbbmdnfkkffjaaGreat
open Go.RowKit Go.Proofs.aC Go.Proofs.aA
open Go.Proofs.au hiding SM
def Um (q:Nat) (S:aA.SM):HP:=fun h=>∃ p M,(star (stars (parts p M)) (pt q 67 [.pointer (some ⟨p,0,none⟩)])) h∧(M.last.xs=[]→M.last.a=none)∧M.sv=S
section
variable {B:Nat} {w0 w:World} {q r:Nat} {S T:aA.SM} {F:HP}
theorem Hr:bL B w0 w q S F↔St B w0 w (star (Um q S) F):=by
 constructor
 ·rintro⟨p,M,h1,h2⟩
  obtain⟨hb,hbase,k,⟨k1,k2,d,rfl,p1,p2⟩,c⟩:=h1.st.aB (show _=star (star (stars (parts p M)) (pt q 67 [.pointer (some ⟨p,0,none⟩)])) F by ac_rfl);exact⟨hb,hbase,_,⟨k1,k2,d,rfl,⟨p,M,p1,h1.bA,h2⟩,p2⟩,c⟩
 ·rintro⟨hb,hbase,k,⟨k1,k2,d,rfl,⟨p,M,p1,hN,h2⟩,p2⟩,c⟩
  have h3:St B w0 w (star (star (stars (parts p M)) (pt q 67 [.pointer (some ⟨p,0,none⟩)])) F):=⟨hb,hbase,_,⟨k1,k2,d,rfl,p1,p2⟩,c⟩;exact⟨p,M,⟨h3.aB (by ac_rfl),hN⟩,h2⟩
theorem bL.other (h:bL B w0 w q S (star (Um r T) F)):bL B w0 w r T (star (Um q S) F):=Hr.2 ((Hr.1 h).aB (by ac_rfl))
theorem bL.two {w':World} (h:bL B w0 w q S F) (k:bL w.heap.size w w' r T emp):bL B w0 w' q S (star (Um r T) F) :=
 h.nest (by have:=Hr.1 k;rw[aQ] at this;exact this)
end
end Go.Proofs.YthbbmdnfkkffjaaGreat

/-
  Parts of the proof, joined by program: akc, akd, Keep, ake.
-/
import Derived.Test.YthbbmdnfkkffjaaGreatY03
import Derived.Test.YthbbmdnfkkffjaaGreatY02
import Derived.Test.YthbbmdnfkkffjaaGreatY01
import Derived.Lib.Hide
set_option maxHeartbeats 8000000
set_option maxRecDepth 100000
namespace Go.Proofs.YthbbmdnfkkffjaaGreat
open Go.RowKit Go.Proofs.aC Go.Proofs.au Go.Proofs.aA
theorem D9 {α:Type} {f:Fl (Fl α)} {i:Nat} {r:Fl α} {e:TypeId} {enc:α→Value} (h:f.xs[i]?=some r):(f.rows e enc)[i]?=some (r.hp e enc):=by simp[Fl.rows,h]
theorem Fa {α:Type} {f:Fl (Fl α)} {i:Nat} {r:Fl α} {e:TypeId} {enc:α→Value} {a:Option Nat} {c:Nat}:(Fl.mk a c (f.xs.set i r)).rows e enc=(f.rows e enc).set i (r.hp e enc):=by simp[Fl.rows,List.map_set]
theorem Bo {α:Type} {f:Fl (Fl α)} {r:Fl α} {e:TypeId} {enc:α→Value} {a:Option Nat} {c:Nat}:(Fl.mk a c (f.xs++[r])).rows e enc=f.rows e enc++[r.hp e enc]:=by simp[Fl.rows]
theorem bV {α:Type} {l:List α} {i:Nat} {x:α} (h:l[i]?=some x):i<l.length:=(List.getElem?_eq_some_iff.1 h).1
section
variable {B:Nat} {w0 w:World} {p:Nat} {M:MM} {F:HP}
def Fb (p:Nat) (M:MM) (i:Nat) (F:HP):HP:=star (stars ((M.given.rows 3 vI).eraseIdx i)) (star (stars ((parts p M).eraseIdx 16)) F)
theorem At.IW (h:At B w0 w p M F) {i:Nat} {r:Fl Int} (hi:M.given.xs[i]?=some r):St B w0 w (star (r.hp 3 vI) (Fb p M i F)) :=
 (h.st.aX (k:=16) (P:=stars (M.given.rows 3 vI)) rfl).aB (by rw[aZ (D9 hi)];unfold Fb;ac_rfl)
theorem At.aaM (h:At B w0 w p M F) (hi:0<M.given.xs.length):∃ b,M.given.a=some b:=by
 have h1:St B w0 w (star (sl M.given.a M.given.xs.length M.given.c 27 1 (M.given.xs.map Fl.v)) (star (stars ((parts p M).eraseIdx 15)) F)):=h.st.aX (k:=15) rfl;obtain⟨_,_,_,hn,_⟩:=h1.sat.aR
 cases e:M.given.a with
 | none=>have:=(hn e).1;omega
 | some b=>exact⟨b,rfl⟩
theorem At.Ta (h:At B w0 w p M F):St B w0 w (star (sl M.given.a M.given.xs.length M.given.c 27 1 (M.given.xs.map Fl.v)) (star (stars ((parts p M).eraseIdx 15)) F)):=h.st.aX (k:=15) rfl
theorem At.Tc (h:At B w0 w p M F) {b i:Nat} (hb:M.given.a=some b) {r:Fl Int} (hi:M.given.xs[i]?=some r):w.cell? ⟨b,i,none⟩=some (.slice (r.a.map fun b=>⟨b,0,none⟩) r.xs.length r.c)∧w.frozen? ⟨b,i,none⟩=false:=by
 have h1:=h.Ta;rw[hb] at h1;exact⟨by rw[h1.aW i (by rw[List.length_map];exact bV hi),List.getElem?_map,hi];rfl,h1.bZ i⟩
theorem At.aaN (h:At B w0 w p M F) {i j b:Nat} {r:Fl Int} (hi:M.given.xs[i]?=some r) (hb:r.a=some b) {x:Int} (hj:r.xs[j]?=some x):w.cell? ⟨b,j,none⟩=some (vI x)∧w.frozen? ⟨b,j,none⟩=false:=by
 have h1:=h.IW hi;unfold Fl.hp at h1;rw[hb] at h1;exact⟨by rw[h1.aW j (by rw[List.length_map];exact bV hj),List.getElem?_map,hj];rfl,h1.bZ j⟩
theorem At.WA (h:At B w0 w p M F) {i:Nat} {r:Fl Int} (hi:M.given.xs[i]?=some r):(0<r.xs.length→∃ b,r.a=some b)∧r.xs.length≤r.c∧(∀ b,r.a=some b→b<w.heap.size∧B≤b):=by
 have h1:=h.IW hi;obtain⟨_,hn,_,hnone,hsome⟩:=h1.sat.aR;refine⟨fun hp=>?_,hn,fun b e=>⟨(hsome b e).2,(hsome b e).1⟩⟩
 cases e:r.a with
 | none=>have:=(hnone e).1;omega
 | some b=>exact⟨b,rfl⟩
theorem At.Ia {b' n c':Nat} {r:Fl Int} (hl:M.last.xs=[]→M.last.a=none) (hn:M.given.xs.length=n) (h:St B w0 w (star (sl (some b') (n+1) c' 27 1 (M.given.xs.map Fl.v++[r.v])) (star (stars ((parts p M).eraseIdx 15)) (star (r.hp 3 vI) F)))) :
  (w.cell? ⟨p,3,none⟩=some (.slice (M.given.a.map fun b=>⟨b,0,none⟩) n M.given.c)∧w.frozen? ⟨p,3,none⟩=false)∧At B w0 (w.setCell ⟨p,3,none⟩ (.slice (some ⟨b',0,none⟩) (n+1) c')) p (M.Ko ⟨some b',c',M.given.xs++[r]⟩) F:=by
 subst hn;have h2:=h.aH (Ps:=parts p M) (k:=15) (by simp[parts]);have h3:=h2.aX (Ps:=(parts p M).set 15 _) (k:=0) (P:=pt p 92 (aI M)) rfl;refine⟨⟨h3.aG 3,h3.bU 3⟩,?_⟩;have h4:=h3.bM 3 (.slice (some ⟨b',0,none⟩) (M.given.xs.length+1) c');have h5:=h4.aH (Ps:=(parts p M).set 15 (sl (some b') (M.given.xs.length+1) c' 27 1 (M.given.xs.map Fl.v++[r.v]))) (k:=0) (by simp[parts]);have h6:=h5.aX (Ps:=((parts p M).set 15 (sl (some b') (M.given.xs.length+1) c' 27 1 (M.given.xs.map Fl.v++[r.v]))).set 0 _) (k:=16) (P:=stars (M.given.rows 3 vI)) rfl
 have h7:St B w0 (w.setCell ⟨p,3,none⟩ (.slice (some ⟨b',0,none⟩) (M.given.xs.length+1) c')) (star (stars (M.given.rows 3 vI++[r.hp 3 vI])) (star (stars ((((parts p M).set 15 (sl (some b') (M.given.xs.length+1) c' 27 1 (M.given.xs.map Fl.v++[r.v]))).set 0 (pt p 92 ((aI M).set 3 (.slice (some ⟨b',0,none⟩) (M.given.xs.length+1) c')))).eraseIdx 16)) F)):=h6.aB (by rw[iW,nA];ac_rfl);have h8:=h7.aH (Ps:=((parts p M).set 15 (sl (some b') (M.given.xs.length+1) c' 27 1 (M.given.xs.map Fl.v++[r.v]))).set 0 (pt p 92 ((aI M).set 3 (.slice (some ⟨b',0,none⟩) (M.given.xs.length+1) c')))) (k:=16) (by simp[parts]);refine⟨h8.aB ?_,hl⟩;simp only[parts,aI,Fl.hp,Fl.v,Fl.outer,Bo,List.map_append,List.map_cons,List.map_nil,List.length_append,List.length_singleton,List.set_cons_succ,List.set_cons_zero,Option.map_some]
def dI (p:Nat) (M:MM) (i:Nat) (F:HP):HP:=star (stars ((M.aj.rows 3 vN).eraseIdx i)) (star (stars ((parts p M).eraseIdx 20)) F)
theorem At.iM (h:At B w0 w p M F) {i:Nat} {r:Fl Nat} (hi:M.aj.xs[i]?=some r):St B w0 w (star (r.hp 3 vN) (dI p M i F)) :=
 (h.st.aX (k:=20) (P:=stars (M.aj.rows 3 vN)) rfl).aB (by rw[aZ (D9 hi)];unfold dI;ac_rfl)
theorem At.jQ {i:Nat} {r:Fl Nat} {Q:HP} (hi:M.aj.xs[i]?=some r) (h:St B w0 w (star Q (dI p M i F))):St B w0 w (star (stars ((parts p M).set 20 (stars ((M.aj.rows 3 vN).set i Q)))) F):=by
 have h1:St B w0 w (star (stars ((M.aj.rows 3 vN).set i Q)) (star (stars ((parts p M).eraseIdx 20)) F)):=h.aB (by rw[(dW (D9 hi) Q).2];unfold dI;ac_rfl);exact h1.aH (Ps:=parts p M) (k:=20) (by simp[parts])
theorem At.qL (h:At B w0 w p M F) (hi:0<M.aj.xs.length):∃ b,M.aj.a=some b:=by
 have h1:St B w0 w (star (sl M.aj.a M.aj.xs.length M.aj.c 27 1 (M.aj.xs.map Fl.v)) (star (stars ((parts p M).eraseIdx 19)) F)):=h.st.aX (k:=19) rfl;obtain⟨_,_,_,hn,_⟩:=h1.sat.aR
 cases e:M.aj.a with
 | none=>have:=(hn e).1;omega
 | some b=>exact⟨b,rfl⟩
theorem At.IX (h:At B w0 w p M F):St B w0 w (star (sl M.aj.a M.aj.xs.length M.aj.c 27 1 (M.aj.xs.map Fl.v)) (star (stars ((parts p M).eraseIdx 19)) F)):=h.st.aX (k:=19) rfl
theorem At.kX (h:At B w0 w p M F) {b i:Nat} (hb:M.aj.a=some b) {r:Fl Nat} (hi:M.aj.xs[i]?=some r):w.cell? ⟨b,i,none⟩=some (.slice (r.a.map fun b=>⟨b,0,none⟩) r.xs.length r.c)∧w.frozen? ⟨b,i,none⟩=false:=by
 have h1:=h.IX;rw[hb] at h1;exact⟨by rw[h1.aW i (by rw[List.length_map];exact bV hi),List.getElem?_map,hi];rfl,h1.bZ i⟩
theorem At.Uv (h:At B w0 w p M F) {b:Nat} (hb:M.aj.a=some b):b≠p:=by
 obtain⟨G,hG⟩:=h.st.two (i:=0) (j:=19) (P:=pt p 92 (aI M)) (Q:=sl M.aj.a M.aj.xs.length M.aj.c 27 1 (M.aj.xs.map Fl.v)) rfl rfl (by decide);rw[hb] at hG;exact hG.sat.gW.symm
theorem At.Bp (h:At B w0 w p M F) {i j b:Nat} {r:Fl Nat} (hi:M.aj.xs[i]?=some r) (hb:r.a=some b) {x:Nat} (hj:r.xs[j]?=some x):w.cell? ⟨b,j,none⟩=some (vN x)∧w.frozen? ⟨b,j,none⟩=false:=by
 have h1:=h.iM hi;unfold Fl.hp at h1;rw[hb] at h1;exact⟨by rw[h1.aW j (by rw[List.length_map];exact bV hj),List.getElem?_map,hj];rfl,h1.bZ j⟩
theorem At.wX (h:At B w0 w p M F) {i:Nat} {r:Fl Nat} (hi:M.aj.xs[i]?=some r):(0<r.xs.length→∃ b,r.a=some b)∧r.xs.length≤r.c∧(∀ b,r.a=some b→b<w.heap.size∧B≤b):=by
 have h1:=h.iM hi;obtain⟨_,hn,_,hnone,hsome⟩:=h1.sat.aR;refine⟨fun hp=>?_,hn,fun b e=>⟨(hsome b e).2,(hsome b e).1⟩⟩
 cases e:r.a with
 | none=>have:=(hnone e).1;omega
 | some b=>exact⟨b,rfl⟩
theorem At.zC (h:At B w0 w p M F) {i j b:Nat} {r:Fl Nat} (hi:M.aj.xs[i]?=some r) (hb:r.a=some b) (hj:j<r.xs.length) (x:Nat):At B w0 (w.setCell ⟨b,j,none⟩ (vN x)) p (M.aY ⟨M.aj.a,M.aj.c,M.aj.xs.set i ⟨r.a,r.c,r.xs.set j x⟩⟩) F:=by
 have h1:=h.iM hi;unfold Fl.hp at h1;rw[hb] at h1;have h2:=At.jQ hi (h1.fH j (vN x) (by simpa using hj));refine⟨h2.aB ?_,h.bA⟩
 have e1:(M.aj.xs.set i ⟨r.a,r.c,r.xs.set j x⟩).map Fl.v=M.aj.xs.map Fl.v:=by
  rw[List.map_set];apply List.ext_getElem?;intro m
  by_cases e:m=i
  ·subst e;have hg:M.aj.xs[m]'(bV hi)=r:=(List.getElem?_eq_some_iff.1 hi).2;simp[Fl.v,bV hi,hg]
  ·rw[List.getElem?_set_ne (fun h=>e h.symm)]
 simp only[parts,aI,Fl.v,Fl.hp,Fl.outer,List.length_set,List.set_cons_succ,List.set_cons_zero,Fa,List.map_set,hb];simp only[Fl.v,List.map_set,List.length_set,hb] at e1;rw[e1]
theorem At.qp {i ob b' n c':Nat} {r:Fl Nat} {x:Nat} (hl:M.last.xs=[]→M.last.a=none) (hi:M.aj.xs[i]?=some r) (hob:M.aj.a=some ob) (hn:r.xs.length=n) (h:St B w0 w (star (sl (some b') (n+1) c' 3 1 (r.xs.map vN++[vN x])) (dI p M i F))) :
  (w.cell? ⟨p,6,none⟩=some (.slice (some ⟨ob,0,none⟩) M.aj.xs.length M.aj.c))∧(w.cell? ⟨ob,i,none⟩=some (.slice (r.a.map fun b=>⟨b,0,none⟩) n r.c)∧w.frozen? ⟨ob,i,none⟩=false) ∧
  At B w0 (w.setCell ⟨ob,i,none⟩ (.slice (some ⟨b',0,none⟩) (n+1) c')) p (M.aY ⟨M.aj.a,M.aj.c,M.aj.xs.set i ⟨some b',c',r.xs++[x]⟩⟩) F:=by
 subst hn;have h1:=At.jQ hi h;have hil:=bV hi;have h0:=h1.aX (Ps:=(parts p M).set 20 _) (k:=0) (P:=pt p 92 (aI M)) rfl;have h2:=h1.aX (Ps:=(parts p M).set 20 _) (k:=19) (P:=sl M.aj.a M.aj.xs.length M.aj.c 27 1 (M.aj.xs.map Fl.v)) rfl;have c0:=h0.aG 6;rw[hob] at h2;refine⟨by rw[c0];simp[aI,Fl.v,hob],⟨by rw[h2.aW i (by rw[List.length_map];exact hil),List.getElem?_map,hi];rfl,h2.bZ i⟩,?_⟩;have h3:=(h2.fH i (.slice (some ⟨b',0,none⟩) (r.xs.length+1) c') (by simpa using hil)).aH (Ps:=(parts p M).set 20 (stars ((M.aj.rows 3 vN).set i (sl (some b') (r.xs.length+1) c' 3 1 (r.xs.map vN++[vN x]))))) (k:=19) (by simp[parts]);refine⟨h3.aB ?_,hl⟩;simp only[parts,aI,Fl.v,Fl.hp,Fl.outer,List.length_set,List.set_cons_succ,List.set_cons_zero,Fa,List.map_set,List.map_append,List.map_cons,List.map_nil,List.length_append,List.length_singleton,Option.map_some,hob]
theorem At.Uw (h:At B w0 w p M F):St B w0 w (star (sl M.learned.a M.learned.xs.length M.learned.c 27 1 (M.learned.xs.map Fl.v)) (star (stars ((parts p M).eraseIdx 21)) F)):=h.st.aX (k:=21) rfl
theorem At.C8 {b' n c':Nat} {r:Fl Int} (hl:M.last.xs=[]→M.last.a=none) (hn:M.learned.xs.length=n) (h:St B w0 w (star (sl (some b') (n+1) c' 27 1 (M.learned.xs.map Fl.v++[r.v])) (star (stars ((parts p M).eraseIdx 21)) (star (r.hp 3 vI) F)))) :
  (w.cell? ⟨p,18,none⟩=some (.slice (M.learned.a.map fun b=>⟨b,0,none⟩) n M.learned.c)∧w.frozen? ⟨p,18,none⟩=false)∧At B w0 (w.setCell ⟨p,18,none⟩ (.slice (some ⟨b',0,none⟩) (n+1) c')) p (M.fq ⟨some b',c',M.learned.xs++[r]⟩) F:=by
 subst hn;have h2:=h.aH (Ps:=parts p M) (k:=21) (by simp[parts]);have h3:=h2.aX (Ps:=(parts p M).set 21 _) (k:=0) (P:=pt p 92 (aI M)) rfl;refine⟨⟨h3.aG 18,h3.bU 18⟩,?_⟩;have h4:=h3.bM 18 (.slice (some ⟨b',0,none⟩) (M.learned.xs.length+1) c');have h5:=h4.aH (Ps:=(parts p M).set 21 (sl (some b') (M.learned.xs.length+1) c' 27 1 (M.learned.xs.map Fl.v++[r.v]))) (k:=0) (by simp[parts]);have h6:=h5.aX (Ps:=((parts p M).set 21 (sl (some b') (M.learned.xs.length+1) c' 27 1 (M.learned.xs.map Fl.v++[r.v]))).set 0 _) (k:=22) (P:=stars (M.learned.rows 3 vI)) rfl
 have h7:St B w0 (w.setCell ⟨p,18,none⟩ (.slice (some ⟨b',0,none⟩) (M.learned.xs.length+1) c')) (star (stars (M.learned.rows 3 vI++[r.hp 3 vI])) (star (stars ((((parts p M).set 21 (sl (some b') (M.learned.xs.length+1) c' 27 1 (M.learned.xs.map Fl.v++[r.v]))).set 0 (pt p 92 ((aI M).set 18 (.slice (some ⟨b',0,none⟩) (M.learned.xs.length+1) c')))).eraseIdx 22)) F)):=h6.aB (by rw[iW,nA];ac_rfl);have h8:=h7.aH (Ps:=((parts p M).set 21 (sl (some b') (M.learned.xs.length+1) c' 27 1 (M.learned.xs.map Fl.v++[r.v]))).set 0 (pt p 92 ((aI M).set 18 (.slice (some ⟨b',0,none⟩) (M.learned.xs.length+1) c')))) (k:=22) (by simp[parts]);refine⟨h8.aB ?_,hl⟩;simp only[parts,aI,Fl.hp,Fl.v,Fl.outer,Bo,List.map_append,List.map_cons,List.map_nil,List.length_append,List.length_singleton,List.set_cons_succ,List.set_cons_zero,Option.map_some]
theorem At.Td (h:At B w0 w p M F) (hi:0<M.steps.xs.length):∃ b,M.steps.a=some b:=by
 have h1:St B w0 w (star (sl M.steps.a M.steps.xs.length M.steps.c 27 1 (M.steps.xs.map Fl.v)) (star (stars ((parts p M).eraseIdx 23)) F)):=h.st.aX (k:=23) rfl;obtain⟨_,_,_,hn,_⟩:=h1.sat.aR
 cases e:M.steps.a with
 | none=>have:=(hn e).1;omega
 | some b=>exact⟨b,rfl⟩
theorem At.Te (h:At B w0 w p M F):St B w0 w (star (sl M.steps.a M.steps.xs.length M.steps.c 27 1 (M.steps.xs.map Fl.v)) (star (stars ((parts p M).eraseIdx 23)) F)):=h.st.aX (k:=23) rfl
theorem At.Tf (h:At B w0 w p M F) {b i:Nat} (hb:M.steps.a=some b) {r:Fl Int} (hi:M.steps.xs[i]?=some r):w.cell? ⟨b,i,none⟩=some (.slice (r.a.map fun b=>⟨b,0,none⟩) r.xs.length r.c)∧w.frozen? ⟨b,i,none⟩=false:=by
 have h1:=h.Te;rw[hb] at h1;exact⟨by rw[h1.aW i (by rw[List.length_map];exact bV hi),List.getElem?_map,hi];rfl,h1.bZ i⟩
theorem At.Ib {b' n c':Nat} {r:Fl Int} (hl:M.last.xs=[]→M.last.a=none) (hn:M.steps.xs.length=n) (h:St B w0 w (star (sl (some b') (n+1) c' 27 1 (M.steps.xs.map Fl.v++[r.v])) (star (stars ((parts p M).eraseIdx 23)) (star (r.hp 3 vI) F)))) :
  (w.cell? ⟨p,19,none⟩=some (.slice (M.steps.a.map fun b=>⟨b,0,none⟩) n M.steps.c)∧w.frozen? ⟨p,19,none⟩=false)∧At B w0 (w.setCell ⟨p,19,none⟩ (.slice (some ⟨b',0,none⟩) (n+1) c')) p (M.Dp ⟨some b',c',M.steps.xs++[r]⟩) F:=by
 subst hn;have h2:=h.aH (Ps:=parts p M) (k:=23) (by simp[parts]);have h3:=h2.aX (Ps:=(parts p M).set 23 _) (k:=0) (P:=pt p 92 (aI M)) rfl;refine⟨⟨h3.aG 19,h3.bU 19⟩,?_⟩;have h4:=h3.bM 19 (.slice (some ⟨b',0,none⟩) (M.steps.xs.length+1) c');have h5:=h4.aH (Ps:=(parts p M).set 23 (sl (some b') (M.steps.xs.length+1) c' 27 1 (M.steps.xs.map Fl.v++[r.v]))) (k:=0) (by simp[parts]);have h6:=h5.aX (Ps:=((parts p M).set 23 (sl (some b') (M.steps.xs.length+1) c' 27 1 (M.steps.xs.map Fl.v++[r.v]))).set 0 _) (k:=24) (P:=stars (M.steps.rows 3 vI)) rfl
 have h7:St B w0 (w.setCell ⟨p,19,none⟩ (.slice (some ⟨b',0,none⟩) (M.steps.xs.length+1) c')) (star (stars (M.steps.rows 3 vI++[r.hp 3 vI])) (star (stars ((((parts p M).set 23 (sl (some b') (M.steps.xs.length+1) c' 27 1 (M.steps.xs.map Fl.v++[r.v]))).set 0 (pt p 92 ((aI M).set 19 (.slice (some ⟨b',0,none⟩) (M.steps.xs.length+1) c')))).eraseIdx 24)) F)):=h6.aB (by rw[iW,nA];ac_rfl);have h8:=h7.aH (Ps:=((parts p M).set 23 (sl (some b') (M.steps.xs.length+1) c' 27 1 (M.steps.xs.map Fl.v++[r.v]))).set 0 (pt p 92 ((aI M).set 19 (.slice (some ⟨b',0,none⟩) (M.steps.xs.length+1) c')))) (k:=24) (by simp[parts]);refine⟨h8.aB ?_,hl⟩;simp only[parts,aI,Fl.hp,Fl.v,Fl.outer,Bo,List.map_append,List.map_cons,List.map_nil,List.length_append,List.length_singleton,List.set_cons_succ,List.set_cons_zero,Option.map_some]
end
theorem Mf:∀ l:List (Fl Nat×Int),(jA l).length=l.length*2
 | []=>rfl
 | x :: r=>by have:=Mf r;simp only[jA,List.flatMap_cons,List.length_append,List.length_cons,List.length_nil] at this ⊢;omega
theorem Mg:∀ (l:List (Fl Nat×Int)) (i:Nat) (x:Fl Nat×Int),l[i]?=some x→(jA l)[i*2]?=some x.1.v∧(jA l)[i*2+1]?=some (vI x.2)
 | [],i,x,h=>by simp at h
 | y :: r,0,x,h=>by
  simp only[List.getElem?_cons_zero,Option.some.injEq] at h;subst h;exact⟨rfl,rfl⟩
 | y :: r,i+1,x,h=>by
  have:=Mg r i x (by simpa using h);have e1:(i+1)*2=i*2+1+1:=by omega
  have e2:jA (y :: r)=y.1.v :: vI y.2 :: jA r:=rfl;rw[e1,e2];exact this
theorem Mh (l m:List (Fl Nat×Int)):jA (l++m)=jA l++jA m:=by simp[jA]
theorem Mi:∀ (l:List (Fl Nat×Int)) (i:Nat) (x y:Fl Nat×Int),l[i]?=some x→y.1.v=x.1.v→y.2=x.2→jA (l.set i y)=jA l
 | [],i,x,y,h,_,_=>by simp at h
 | z :: r,0,x,y,h,h1,h2=>by
  simp only[List.getElem?_cons_zero,Option.some.injEq] at h;subst h;show y.1.v :: vI y.2 :: jA r=z.1.v :: vI z.2 :: jA r;rw[h1,h2]
 | z :: r,i+1,x,y,h,h1,h2=>by
  have:=Mi r i x y (by simpa using h) h1 h2;show z.1.v :: vI z.2 :: jA (r.set i y)=z.1.v :: vI z.2 :: jA r;rw[this]
theorem Fe {l:List (Fl Nat×Int)} {i:Nat} {x:Fl Nat×Int} (h:l[i]?=some x):(nN l)[i]?=some (x.1.hp 98 vL):=by simp[nN,h]
theorem WB (l:List (Fl Nat×Int)) (i:Nat) (x:Fl Nat×Int):nN (l.set i x)=(nN l).set i (x.1.hp 98 vL):=by simp[nN,List.map_set]
section
variable {B:Nat} {w0 w:World} {p:Nat} {M:MM} {F:HP}
theorem At.WC (h:At B w0 w p M F):St B w0 w (star (sl M.cls.a M.cls.xs.length M.cls.c 123 2 (jA M.cls.xs)) (star (stars ((parts p M).eraseIdx 17)) F)):=h.st.aX (k:=17) rfl
theorem At.IY (h:At B w0 w p M F) (hi:0<M.cls.xs.length):∃ b,M.cls.a=some b:=by
 obtain⟨_,_,_,hn,_⟩:=h.WC.sat.aR
 cases e:M.cls.a with
 | none=>have:=(hn e).1;omega
 | some b=>exact⟨b,rfl⟩
theorem At.wI (h:At B w0 w p M F) {b i:Nat} (hb:M.cls.a=some b) {r:Fl Nat} {d:Int} (hi:M.cls.xs[i]?=some (r,d)) :
  w.cell? ⟨b,i*2,none⟩=some (.slice (r.a.map fun b=>⟨b,0,none⟩) r.xs.length r.c)∧w.cell? ⟨b,i*2+1,none⟩=some (.int .i64 d):=by
 have h1:=h.WC;rw[hb] at h1;have hl:=Mf M.cls.xs;have hil:=bV hi;obtain⟨g1,g2⟩:=Mg _ _ _ hi;exact⟨by rw[h1.aW (i*2) (by omega),g1];rfl,by rw[h1.aW (i*2+1) (by omega),g2];rfl⟩
def zD (p:Nat) (M:MM) (i:Nat) (F:HP):HP:=star (stars ((nN M.cls.xs).eraseIdx i)) (star (stars ((parts p M).eraseIdx 18)) F)
theorem At.Dx (h:At B w0 w p M F) {i:Nat} {r:Fl Nat} {d:Int} (hi:M.cls.xs[i]?=some (r,d)):St B w0 w (star (r.hp 98 vL) (zD p M i F)) :=
 (h.st.aX (k:=18) (P:=stars (nN M.cls.xs)) rfl).aB (by rw[aZ (Fe hi)];unfold zD;ac_rfl)
theorem At.Ux {i:Nat} {r:Fl Nat} {d:Int} {Q:HP} (hi:M.cls.xs[i]?=some (r,d)) (h:St B w0 w (star Q (zD p M i F))):St B w0 w (star (stars ((parts p M).set 18 (stars ((nN M.cls.xs).set i Q)))) F):=by
 have h1:St B w0 w (star (stars ((nN M.cls.xs).set i Q)) (star (stars ((parts p M).eraseIdx 18)) F)):=h.aB (by rw[(dW (Fe hi) Q).2];unfold zD;ac_rfl);exact h1.aH (Ps:=parts p M) (k:=18) (by simp[parts])
theorem At.iE (h:At B w0 w p M F) {i j b:Nat} {r:Fl Nat} {d:Int} (hi:M.cls.xs[i]?=some (r,d)) (hb:r.a=some b) {x:Nat} (hj:r.xs[j]?=some x):w.cell? ⟨b,j,none⟩=some (.int .u32 x)∧w.frozen? ⟨b,j,none⟩=false:=by
 have h1:=h.Dx hi;unfold Fl.hp at h1;rw[hb] at h1;exact⟨by rw[h1.aW j (by rw[List.length_map];exact bV hj),List.getElem?_map,hj];rfl,h1.bZ j⟩
theorem At.wY (h:At B w0 w p M F) {i:Nat} {r:Fl Nat} {d:Int} (hi:M.cls.xs[i]?=some (r,d)):(0<r.xs.length→∃ b,r.a=some b)∧r.xs.length≤r.c∧(∀ b,r.a=some b→b<w.heap.size∧B≤b):=by
 have h1:=h.Dx hi;obtain⟨_,hn,_,hnone,hsome⟩:=h1.sat.aR;refine⟨fun hp=>?_,hn,fun b e=>⟨(hsome b e).2,(hsome b e).1⟩⟩
 cases e:r.a with
 | none=>have:=(hnone e).1;omega
 | some b=>exact⟨b,rfl⟩
theorem At.adH (h:At B w0 w p M F) {i b:Nat} {r:Fl Nat} {d:Int} (hi:M.cls.xs[i]?=some (r,d)) (hb:r.a=some b):b≠p∧(∀ b',M.cls.a=some b'→b≠b')∧(∀ b',M.aj.a=some b'→b≠b')∧(∀ b',M.value.a=some b'→b≠b'):=by
 have h1:St B w0 w (star (r.hp 98 vL) (star (stars ((nN M.cls.xs).eraseIdx i)) (star (stars ((parts p M).eraseIdx 18)) F))):=h.Dx hi;unfold Fl.hp at h1;rw[hb] at h1;refine⟨?_,fun b' hb'=>?_,fun b' hb'=>?_,fun b' hb'=>?_⟩
 ·rw[aZ (Ps:=(parts p M).eraseIdx 18) (k:=0) (P:=pt p 92 (aI M)) rfl] at h1;have h2:St B w0 w (star (pt p 92 (aI M)) (star (sl (some b) r.xs.length r.c 98 1 (r.xs.map vL)) (star (stars ((nN M.cls.xs).eraseIdx i)) (star (stars (((parts p M).eraseIdx 18).eraseIdx 0)) F)))):=h1.aB (by ac_rfl);exact h2.sat.gW.symm
 ·rw[aZ (Ps:=(parts p M).eraseIdx 18) (k:=17) (P:=sl M.cls.a M.cls.xs.length M.cls.c 123 2 (jA M.cls.xs)) rfl,hb'] at h1;have h2:St B w0 w (star (sl (some b) r.xs.length r.c 98 1 (r.xs.map vL)) (star (sl (some b') M.cls.xs.length M.cls.c 123 2 (jA M.cls.xs)) (star (stars ((nN M.cls.xs).eraseIdx i)) (star (stars (((parts p M).eraseIdx 18).eraseIdx 17)) F)))):=h1.aB (by ac_rfl);exact h2.SI
 ·rw[aZ (Ps:=(parts p M).eraseIdx 18) (k:=18) (P:=sl M.aj.a M.aj.xs.length M.aj.c 27 1 (M.aj.xs.map Fl.v)) rfl,hb'] at h1;have h2:St B w0 w (star (sl (some b) r.xs.length r.c 98 1 (r.xs.map vL)) (star (sl (some b') M.aj.xs.length M.aj.c 27 1 (M.aj.xs.map Fl.v)) (star (stars ((nN M.cls.xs).eraseIdx i)) (star (stars (((parts p M).eraseIdx 18).eraseIdx 18)) F)))):=h1.aB (by ac_rfl);exact h2.SI
 ·rw[aZ (Ps:=(parts p M).eraseIdx 18) (k:=1) (P:=sl M.value.a M.value.xs.length M.value.c 114 1 (M.value.xs.map v8)) rfl,hb'] at h1;have h2:St B w0 w (star (sl (some b) r.xs.length r.c 98 1 (r.xs.map vL)) (star (sl (some b') M.value.xs.length M.value.c 114 1 (M.value.xs.map v8)) (star (stars ((nN M.cls.xs).eraseIdx i)) (star (stars (((parts p M).eraseIdx 18).eraseIdx 1)) F)))):=h1.aB (by ac_rfl);exact h2.SI
theorem At.Mj (h:At B w0 w p M F) {i j b:Nat} {r:Fl Nat} {d:Int} (hi:M.cls.xs[i]?=some (r,d)) (hb:r.a=some b) (hj:j<r.xs.length) (x:Nat):At B w0 (w.setCell ⟨b,j,none⟩ (.int .u32 x)) p (M.DZ ⟨M.cls.a,M.cls.c,M.cls.xs.set i (⟨r.a,r.c,r.xs.set j x⟩,d)⟩) F:=by
 have h1:=h.Dx hi;unfold Fl.hp at h1;rw[hb] at h1;have h2:=At.Ux hi (h1.fH j (.int .u32 x) (by simpa using hj));refine⟨h2.aB ?_,h.bA⟩;have e1:jA (M.cls.xs.set i (⟨r.a,r.c,r.xs.set j x⟩,d))=jA M.cls.xs:=Mi _ _ _ _ hi (by simp[Fl.v]) rfl;simp only[parts,aI,Fl.v,Fl.hp,List.length_set,List.set_cons_succ,List.set_cons_zero,WB,List.map_set,hb,vL] at e1 ⊢;rw[e1]
theorem At.aaP {b' n c':Nat} {r:Fl Nat} {d:Int} (hl:M.last.xs=[]→M.last.a=none) (hn:M.cls.xs.length=n) (h:St B w0 w (star (sl (some b') (n+1) c' 123 2 (jA M.cls.xs++[r.v,vI d])) (star (stars ((parts p M).eraseIdx 17)) (star (r.hp 98 vL) F)))) :
  (w.cell? ⟨p,5,none⟩=some (.slice (M.cls.a.map fun b=>⟨b,0,none⟩) n M.cls.c)∧w.frozen? ⟨p,5,none⟩=false)∧At B w0 (w.setCell ⟨p,5,none⟩ (.slice (some ⟨b',0,none⟩) (n+1) c')) p (M.DZ ⟨some b',c',M.cls.xs++[(r,d)]⟩) F:=by
 subst hn;have h2:=h.aH (Ps:=parts p M) (k:=17) (by simp[parts]);have h3:=h2.aX (Ps:=(parts p M).set 17 _) (k:=0) (P:=pt p 92 (aI M)) rfl;refine⟨⟨h3.aG 5,h3.bU 5⟩,?_⟩;have h4:=h3.bM 5 (.slice (some ⟨b',0,none⟩) (M.cls.xs.length+1) c');have h5:=h4.aH (Ps:=(parts p M).set 17 (sl (some b') (M.cls.xs.length+1) c' 123 2 (jA M.cls.xs++[r.v,vI d]))) (k:=0) (by simp[parts]);have h6:=h5.aX (Ps:=((parts p M).set 17 (sl (some b') (M.cls.xs.length+1) c' 123 2 (jA M.cls.xs++[r.v,vI d]))).set 0 _) (k:=18) (P:=stars (nN M.cls.xs)) rfl;have h7:St B w0 (w.setCell ⟨p,5,none⟩ (.slice (some ⟨b',0,none⟩) (M.cls.xs.length+1) c')) (star (stars (nN M.cls.xs++[r.hp 98 vL])) (star (stars ((((parts p M).set 17 (sl (some b') (M.cls.xs.length+1) c' 123 2 (jA M.cls.xs++[r.v,vI d]))).set 0 (pt p 92 ((aI M).set 5 (.slice (some ⟨b',0,none⟩) (M.cls.xs.length+1) c')))).eraseIdx 18)) F)):=h6.aB (by rw[iW,nA];ac_rfl)
 have h8:=h7.aH (Ps:=((parts p M).set 17 (sl (some b') (M.cls.xs.length+1) c' 123 2 (jA M.cls.xs++[r.v,vI d]))).set 0 (pt p 92 ((aI M).set 5 (.slice (some ⟨b',0,none⟩) (M.cls.xs.length+1) c')))) (k:=18) (by simp[parts]);refine⟨h8.aB ?_,hl⟩;have e1:jA (M.cls.xs++[(r,d)])=jA M.cls.xs++[r.v,vI d]:=by rw[Mh];rfl
 have e2:nN (M.cls.xs++[(r,d)])=nN M.cls.xs++[r.hp 98 vL]:=by simp[nN]
 have e3:(Fl.mk (some b') c' (M.cls.xs++[(r,d)])).v=.slice (some ⟨b',0,none⟩) (M.cls.xs.length+1) c':=by simp[Fl.v]
 simp only[parts,aI,e1,e2,e3,List.length_append,List.length_singleton,List.set_cons_succ,List.set_cons_zero]
end
end Go.Proofs.YthbbmdnfkkffjaaGreat
namespace Go.Proofs.aC
open Go Go.RowKit Go.Proofs.au
theorem Cm {z:Array Value} {n:Nat} {q:Value→Prop} (h:∀ u∈z,q u):∀ u∈Builtin.zeroCells z n,q u:=by
 intro u hu;unfold Builtin.zeroCells at hu;obtain⟨i,hi,rfl⟩:=Array.mem_map.1 hu;rw[Array.mem_range] at hi
 have hz:0<z.size:=by
  apply Nat.pos_of_ne_zero;intro e;rw[e] at hi;omega
 have hlt:=Nat.mod_lt i hz;rw[getElem!_pos z _ hlt];exact h _ (Array.getElem_mem hlt)
theorem Tg {w:World} {cs:Array Value} {e:TypeId} {q:Value→Prop} (h:∀ u∈cs,q u):∀ i v,(w.alloc (.cells cs e)).cell? ⟨w.heap.size,i,none⟩=some v→q v:=by
 intro i v hv;unfold World.cell? at hv;rw[heap_alloc_new] at hv;simp only[Option.isSome_none,Bool.false_eq_true,if_false] at hv;obtain⟨hi,rfl⟩:=Array.getElem?_eq_some_iff.1 hv;exact h _ (Array.getElem_mem hi)
section
variable {P:Program}
theorem kJ (w0 w:World) (B:Nat) (t ty e:TypeId) (i:TypeInfo) (z:Value) (size bytes:Nat) (ht:P.underlying t=some (.slice e)) (hi:P.info? e=some i) (hz:i.zero=some z)
  (hsize:i.size=size) (hby:i.bytes=bytes) (hzs:z.cells.size=size) (hsz:0<size)
  (a:Option Nat) (n c:Nat) (xs:List Value) (F:HP) (hst:St B w0 w (star (sl a n c e size xs) F))
  (ad:Addr) (m d:Nat) (news:List Value) (hl:news.length=m*size) (hnews:∀ j u,news[j]?=some u→w.cell? (ad.add j)=some u) (h1:∀ u∈news,u.oneCell'=true)
  (h63:n+m≤maxLen) (hbytes:(n+m)*bytes≤140737488355328) (hm:0<m) :
  ∃ b' c' w',(Builtin.append_ #[t,t] ty #[iB a n c,.slice (some ad) m d]).run P w=.ok (iB (some b') (n+m) c') w'∧St B w0 w' (star (sl (some b') (n+m) c' e size (xs++news)) F)∧(∀ k,k<w.heap.size→a≠some k→w'.heap[k]?=w.heap[k]?) ∧
   (∀ q:Value→Prop,(∀ u∈xs,q u)→(∀ u∈news,q u)→(∀ u∈z.cells,q u)→(∀ b i v,a=some b→w.cell? ⟨b,i,none⟩=some v→q v)→∀ i v,w'.cell? ⟨b',i,none⟩=some v→q v):=by
 subst hsize
 subst hby
 have hsmall:n+m≤9223372036854775807:=by simp only[maxLen] at h63;omega
 obtain⟨hx,hnc,hcm,hnone,hsome⟩:=hst.sat.aR;have hlen:(xs++news).length=(n+m)*i.size:=by rw[List.length_append,hx,hl,Nat.add_mul]
 have grown:∀ (old:Nat),old<n+m →
   St B w0 (w.drew.alloc (.cells (xs.toArray++news.toArray++Builtin.zeroCells z.cells (grownCap w (n+m) old e-(n+m))) e)) (star (sl (some w.heap.size) (n+m) (grownCap w (n+m) old e) e i.size (xs++news)) F):=by
  intro old ho;have hge:=grownCap_ge w (n+m) old e;have hcm:grownCap w (n+m) old e≤maxLen:=grownCap_le_maxLen w (n+m) old e h63;have hd:=hst.wH.drew.iC (xs.toArray++news.toArray++Builtin.zeroCells z.cells (grownCap w (n+m) old e-(n+m))) e;refine⟨hd.below,hd.base,hd.sat.pO hlen hge hcm ?_ ?_⟩
  ·simp only[Array.toList_append,List.length_append,Array.length_toList,size_zeroCells,hzs,hl,hx];rw[←Nat.add_mul,←Nat.add_mul];exact Nat.mul_le_mul_right _ (by omega)
  ·simp only[Array.toList_append];rw[←hlen];exact List.take_left
 cases a with
 | none =>
  obtain⟨rfl,rfl⟩:=hnone rfl;have hx0:xs=[]:=List.eq_nil_of_length_eq_zero (by simpa using hx);subst hx0;have hr:=run_append_nil (P:=P) w t ty e i z ht hi hz ad m d news hl hnews hm (by omega) (by have hb:=hbytes;simp only[Nat.zero_add] at hb;omega);have hgr:=grown 0 (by omega);simp only[Nat.zero_add,List.nil_append,Array.empty_append] at hgr ⊢;refine⟨_,_,_,hr,hgr,fun k hk _=>heap_alloc_old _ _ hk,fun q _ hq1 hq2 _=>Tg (w:=w.drew) fun u hu=>?_⟩;rcases Array.mem_append.1 hu with hu | hu
  ·exact hq1 u (by simpa using hu)
  ·exact Cm (fun u hu=>hq2 u hu) u hu
 | some b =>
  obtain⟨cur,_,_,_,hcur,htake,hp⟩:=hst.sat.wG
  by_cases hroom:n+m≤c
  ·have hfit:n*i.size+news.length≤cur.toArray.size:=by
    rw[hl,←Nat.add_mul,List.size_toArray];exact Nat.le_trans (Nat.mul_le_mul_right _ hroom) hcur
   have hr:=run_append_room (P:=P) w t ty e i ht hi b n c cur.toArray (Sat.one hp).1 ad m d news hl hnews h1 hroom hfit;refine⟨_,_,_,hr,⟨?_,?_,?_⟩,fun k _ hne=>setRow_other w b k _ (fun e=>hne (by rw[e])),fun q _ hq1 _ hq3 i v hv=>?_⟩
   ·exact hst.below.trans ⟨rfl,rfl,rfl,by simp,fun k hk=>setRow_other w b k _ (fun e=>by have:=hst.Kl;omega)⟩
   ·simpa using hst.base
   ·refine Sat.pO (cur:=(cur.toArray.toList.take (n*i.size)++news++cur.toArray.toList.drop (n*i.size+news.length))) (Sat.put hp (setRow_heap w b _ _ e _ (Sat.one hp).1) fun k hk _=>setRow_other w b k _ hk) hlen hroom hcm ?_ ?_
    ·have:=hcur;simp only[List.length_append,List.length_take,List.length_drop];simp only[List.size_toArray] at hfit;omega
    ·simp only[htake];rw[←hlen];exact List.take_left
   ·have hb0:=(Sat.one hp).1
    have acE:∀ u∈cur,q u:=fun u hu=>by
     obtain⟨j,hj,rfl⟩:=List.getElem_of_mem hu;refine hq3 b j _ rfl ?_;unfold World.cell?;rw[hb0];simp[hj]
    unfold World.cell? at hv;rw[setRow_heap w b _ _ e _ hb0] at hv;simp only[Option.isSome_none,Bool.false_eq_true,if_false,List.getElem?_toArray] at hv;have hm:=List.mem_of_getElem? hv;rcases List.mem_append.1 hm with hm | hm
    ·rcases List.mem_append.1 hm with hm | hm
     ·exact acE v (by simpa using List.mem_of_mem_take hm)
     ·exact hq1 v hm
    ·exact acE v (by simpa using List.mem_of_mem_drop hm)
  ·have holds:∀ j u,xs[j]?=some u→w.cell? ((⟨b,0,none⟩:Addr).add j)=some u:=by
    intro j u hj;have hadd:(⟨b,0,none⟩:Addr).add j=⟨b,j,none⟩:=by unfold Addr.add;split <;> simp_all
    rw[hadd,hst.aW j (List.getElem?_eq_some_iff.1 hj).1];exact hj
   have hr:=run_append_grow (P:=P) w t ty e i z ht hi hz ⟨b,0,none⟩ n c xs hx holds ad m d news hl hnews (by omega) (by omega) (growslice_fits (by omega) hbytes);refine⟨_,_,_,hr,grown c (by omega),fun k hk _=>heap_alloc_old _ _ hk,fun q hq0 hq1 hq2 _=>Tg (w:=w.drew) fun u hu=>?_⟩;rcases Array.mem_append.1 hu with hu | hu
   ·rcases Array.mem_append.1 hu with hu | hu
    ·exact hq0 u (by simpa using hu)
    ·exact hq1 u (by simpa using hu)
   ·exact Cm (fun u hu=>hq2 u hu) u hu
variable {ops:Array Oper} {rest:List Oper} {o:Oper} {a:Act} {Q:Exit→Act→World→Prop}
theorem tK {w:World} (hgd:o.guard=none) (s x:Operand) (t e:TypeId) (z:Value) (bytes:Nat)
  (ho:o.op=.call { callee:=.builtin .append,args:=#[s,x],argTypes:=#[t,t] })
  (ht:P.underlying t=some (.slice e)) (hinfo:(P.info? e).map (fun i=>(i.zero,i.size,i.bytes))=some (some z,1,bytes)) (hzs:z.cells.size=1)
  {B:Nat} {w0:World} {v:Option Nat} {n c:Nat} {xs:List Value} {F:HP} (hst:St B w0 w (star (sl v n c e 1 xs) F))
  (hs:a.eval s=.slice (v.map fun b=>⟨b,0,none⟩) n c) (y:Value) (hx:a.eval x=.slice (some ⟨w.heap.size,0,none⟩) 1 1) (h1:y.oneCell'=true) (hb:(n+1)*bytes≤140737488355328) (hn:n+1≤maxLen)
  (h:∀ b' c' w',St B w0 w' (star (sl (some b') (n+1) c' e 1 (xs++[y])) F)→(∀ k,k<w.heap.size→v≠some k→w'.heap[k]?=w.heap[k]?) →
   (∀ q:Value→Prop,(∀ u∈xs,q u)→q y→(∀ u∈z.cells,q u)→(∀ b i u,v=some b→w.cell? ⟨b,i,none⟩=some u→q u)→∀ i u,w'.cell? ⟨b',i,none⟩=some u→q u)→wpList P ops Q rest (a.put o.dst (.slice (some ⟨b',0,none⟩) (n+1) c')) w') :
  wpList P ops Q (o :: rest) a (w.alloc (.cells #[y] e)):=by
 obtain⟨i,hi,hzz⟩:=Option.map_eq_some_iff.1 hinfo;simp only[Prod.mk.injEq] at hzz;obtain⟨hz0,hz1,hz2⟩:=hzz;refine wpList_plain hgd fun K hK=>?_;obtain⟨b',c',w',hr,h2,h3,h4⟩:=kJ (P:=P) w0 (w.alloc (.cells #[y] e)) B t o.type e i z 1 bytes ht hi hz0 hz1 hz2 hzs (by omega) v n c xs F (hst.alloc _) ⟨w.heap.size,0,none⟩ 1 1 [y] rfl (cell_one_new _ _ _) (by simpa using h1) hn hb (by omega);unfold Oper.wp execOp;simp only[iB] at hr;simp only[ho,resolve,invoke,builtin,Sem.run_bind,Sem.run_pure,Result.andThen_ok,List.map_toArray,List.map_cons,List.map_nil,hs,hx,hr];refine hK _ _ (h b' c' w' h2 (fun k hk hne=>(h3 k (by simp;omega) hne).trans (heap_alloc_old _ _ hk)) fun q q0 q1 q2 q3=>h4 q q0 (by simpa using q1) q2 fun b i u hb hu=>?_);subst hb;refine q3 b i u rfl ?_;obtain⟨cur,_,_,_,_,_,hp⟩:=hst.sat.wG;rw[←hu];unfold World.cell?
 rw[heap_alloc_old _ _ (Array.getElem?_eq_some_iff.1 (Sat.one hp).1).1]
end
theorem Rd.keep {w w':World} {A:Option Addr} {n:Nat} {xs:List Int} (h:Rd w A n xs) (hk:∀ b o,A=some ⟨b,o,none⟩→0<n→w'.heap[b]?=w.heap[b]?):Rd w' A n xs:=by
 refine⟨h.len,h.small,fun hp=>?_⟩;obtain⟨b,o,e,hc⟩:=h.cells hp;refine⟨b,o,e,fun j hj=>?_⟩;rw[←hc j hj];unfold World.cell?;rw[hk b o e hp]
def Mk (w:World) (b:Nat):Prop:=∀ i v,w.cell? ⟨b,i,none⟩=some v→∀ x,v≠.int .i64 x
theorem Rd.ne {w:World} {A:Option Addr} {n:Nat} {xs:List Int} {b:Nat} (h:Rd w A n xs) (hb:Mk w b):∀ b' o,A=some ⟨b',o,none⟩→0<n→b'≠b:=by
 intro b' o e hp hbb;subst hbb;obtain⟨b2,o2,e2,hc⟩:=h.cells hp;rw[e] at e2;obtain⟨rfl,rfl⟩:b'=b2∧o=o2:=by simpa using e2
 exact hb _ _ (hc 0 hp) _ rfl
theorem Rd.lt {w:World} {A:Option Addr} {n:Nat} {xs:List Int} (h:Rd w A n xs):∀ b o,A=some ⟨b,o,none⟩→0<n→b<w.heap.size:=by
 intro b o e hp;obtain⟨b2,o2,e2,hc⟩:=h.cells hp;rw[e] at e2;obtain⟨rfl,rfl⟩:b=b2∧o=o2:=by simpa using e2
 exact World.block_lt_of_cell? w _ (hc 0 hp)
section
variable {P:Program} {ops:Array Oper} {rest:List Oper} {o:Oper} {a:Act} {Q:Exit→Act→World→Prop}
theorem uH {w:World} (hgd:o.guard=none) (s x:Operand) (t e:TypeId) (z:Value) (bytes:Nat)
  (ho:o.op=.call { callee:=.builtin .append,args:=#[s,x],argTypes:=#[t,t] })
  (ht:P.underlying t=some (.slice e)) (hinfo:(P.info? e).map (fun i=>(i.zero,i.size,i.bytes))=some (some z,1,bytes)) (hzs:z.cells.size=1)
  {B:Nat} {w0:World} {v:Option Nat} {n c:Nat} {xs:List Value} {F:HP} (hst:St B w0 w (star (sl v n c e 1 xs) F))
  (hs:a.eval s=.slice (v.map fun b=>⟨b,0,none⟩) n c) (ad:Addr) (m d:Nat) (news:List Value) (hx:a.eval x=.slice (some ad) m d) (hl:news.length=m) (hnews:∀ j u,news[j]?=some u→w.cell? (ad.add j)=some u)
  (h1:∀ u∈news,u.oneCell'=true) (hb:(n+m)*bytes≤140737488355328) (hn:n+m≤maxLen) (hm:0<m)
  (h:∀ b' c' w',St B w0 w' (star (sl (some b') (n+m) c' e 1 (xs++news)) F)→(∀ k,k<w.heap.size→v≠some k→w'.heap[k]?=w.heap[k]?) →
   (∀ q:Value→Prop,(∀ u∈xs,q u)→(∀ u∈news,q u)→(∀ u∈z.cells,q u)→(∀ b i u,v=some b→w.cell? ⟨b,i,none⟩=some u→q u)→∀ i u,w'.cell? ⟨b',i,none⟩=some u→q u) →
   wpList P ops Q rest (a.put o.dst (.slice (some ⟨b',0,none⟩) (n+m) c')) w') :
  wpList P ops Q (o :: rest) a w:=by
 obtain⟨i,hi,hzz⟩:=Option.map_eq_some_iff.1 hinfo;simp only[Prod.mk.injEq] at hzz;obtain⟨hz0,hz1,hz2⟩:=hzz;refine wpList_plain hgd fun K hK=>?_;obtain⟨b',c',w',hr,h2,h3,h4⟩:=kJ (P:=P) w0 w B t o.type e i z 1 bytes ht hi hz0 hz1 hz2 hzs (by omega) v n c xs F hst ad m d news (by omega) hnews h1 hn hb hm;unfold Oper.wp execOp;simp only[iB] at hr;simp only[ho,resolve,invoke,builtin,Sem.run_bind,Sem.run_pure,Result.andThen_ok,List.map_toArray,List.map_cons,List.map_nil,hs,hx,hr];exact hK _ _ (h b' c' w' h2 h3 h4)
end
end Go.Proofs.aC

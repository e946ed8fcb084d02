/-
  Parts of the proof, joined by program: SatAt2, SatAt3.
-/
import Derived.Test.YthbbmdnfkkffjaaGreatZ03
namespace Go.Proofs.YthbbmdnfkkffjaaGreat
open Go.RowKit Go.Proofs.PlaitSep Go.Proofs.PlaitPure Go.Proofs.PlaitSat
theorem rows_get {α:Type} {f:Fl (Fl α)} {i:Nat} {r:Fl α} {e:TypeId} {enc:α→Value} (h:f.xs[i]?=some r):(f.rows e enc)[i]?=some (r.hp e enc):=by simp[Fl.rows,h]
theorem rows_set {α:Type} {f:Fl (Fl α)} {i:Nat} {r:Fl α} {e:TypeId} {enc:α→Value} {a:Option Nat} {c:Nat}:(Fl.mk a c (f.xs.set i r)).rows e enc=(f.rows e enc).set i (r.hp e enc):=by simp[Fl.rows,List.map_set]
theorem rows_push {α:Type} {f:Fl (Fl α)} {r:Fl α} {e:TypeId} {enc:α→Value} {a:Option Nat} {c:Nat}:(Fl.mk a c (f.xs++[r])).rows e enc=f.rows e enc++[r.hp e enc]:=by simp[Fl.rows]
theorem list_len_lt {α:Type} {l:List α} {i:Nat} {x:α} (h:l[i]?=some x):i<l.length:=(List.getElem?_eq_some_iff.1 h).1
section
variable {B:Nat} {w0 w:World} {p:Nat} {M:MM} {F:HP}
def hole_given (p:Nat) (M:MM) (i:Nat) (F:HP):HP:=star (stars ((M.given.rows 3 vI).eraseIdx i)) (star (stars ((parts p M).eraseIdx 16)) F)
theorem At.row_given (h:At B w0 w p M F) {i:Nat} {r:Fl Int} (hi:M.given.xs[i]?=some r):St B w0 w (star (r.hp 3 vI) (hole_given p M i F)) :=
 (h.st.focusK (k:=16) (P:=stars (M.given.rows 3 vI)) rfl).conseq (by rw[stars_focus (rows_get hi)];unfold hole_given;ac_rfl)
theorem At.b_given (h:At B w0 w p M F) (hi:0<M.given.xs.length):∃ b,M.given.a=some b:=by
 have h1:St B w0 w (star (sl M.given.a M.given.xs.length M.given.c 27 1 (M.given.xs.map Fl.v)) (star (stars ((parts p M).eraseIdx 15)) F)):=h.st.focusK (k:=15) rfl
 obtain⟨_,_,_,hn,_⟩:=h1.sat.sl_facts
 cases e:M.given.a with
 | none=>have:=(hn e).1;omega
 | some b=>exact⟨b,rfl⟩
theorem At.t_given (h:At B w0 w p M F):St B w0 w (star (sl M.given.a M.given.xs.length M.given.c 27 1 (M.given.xs.map Fl.v)) (star (stars ((parts p M).eraseIdx 15)) F)):=h.st.focusK (k:=15) rfl
theorem At.o_given (h:At B w0 w p M F) {b i:Nat} (hb:M.given.a=some b) {r:Fl Int} (hi:M.given.xs[i]?=some r):w.cell? ⟨b,i,none⟩=some (.slice (r.a.map fun b=>⟨b,0,none⟩) r.xs.length r.c)∧w.frozen? ⟨b,i,none⟩=false:=by
 have h1:=h.t_given
 rw[hb] at h1
 exact⟨by rw[h1.sl_cell i (by rw[List.length_map];exact list_len_lt hi),List.getElem?_map,hi];rfl,h1.sl_free i⟩
theorem At.e_given (h:At B w0 w p M F) {i j b:Nat} {r:Fl Int} (hi:M.given.xs[i]?=some r) (hb:r.a=some b) {x:Int} (hj:r.xs[j]?=some x):w.cell? ⟨b,j,none⟩=some (vI x)∧w.frozen? ⟨b,j,none⟩=false:=by
 have h1:=h.row_given hi
 unfold Fl.hp at h1
 rw[hb] at h1
 exact⟨by rw[h1.sl_cell j (by rw[List.length_map];exact list_len_lt hj),List.getElem?_map,hj];rfl,h1.sl_free j⟩
theorem At.rb_given (h:At B w0 w p M F) {i:Nat} {r:Fl Int} (hi:M.given.xs[i]?=some r):(0<r.xs.length→∃ b,r.a=some b)∧r.xs.length≤r.c∧(∀ b,r.a=some b→b<w.heap.size∧B≤b):=by
 have h1:=h.row_given hi
 obtain⟨_,hn,_,hnone,hsome⟩:=h1.sat.sl_facts
 refine⟨fun hp=>?_,hn,fun b e=>⟨(hsome b e).2,(hsome b e).1⟩⟩
 cases e:r.a with
 | none=>have:=(hnone e).1;omega
 | some b=>exact⟨b,rfl⟩
theorem At.pushrow_given {b' n c':Nat} {r:Fl Int} (hl:M.last.xs=[]→M.last.a=none) (hn:M.given.xs.length=n) (h:St B w0 w (star (sl (some b') (n+1) c' 27 1 (M.given.xs.map Fl.v++[r.v])) (star (stars ((parts p M).eraseIdx 15)) (star (r.hp 3 vI) F)))) :
  (w.cell? ⟨p,3,none⟩=some (.slice (M.given.a.map fun b=>⟨b,0,none⟩) n M.given.c)∧w.frozen? ⟨p,3,none⟩=false)∧At B w0 (w.setCell ⟨p,3,none⟩ (.slice (some ⟨b',0,none⟩) (n+1) c')) p (M.u_given ⟨some b',c',M.given.xs++[r]⟩) F:=by
 subst hn
 have h2:=h.unfocusK (Ps:=parts p M) (k:=15) (by simp[parts])
 have h3:=h2.focusK (Ps:=(parts p M).set 15 _) (k:=0) (P:=pt p 92 (cellsM M)) rfl
 refine⟨⟨h3.pt_cell 3,h3.pt_free 3⟩,?_⟩
 have h4:=h3.pt_set 3 (.slice (some ⟨b',0,none⟩) (M.given.xs.length+1) c')
 have h5:=h4.unfocusK (Ps:=(parts p M).set 15 (sl (some b') (M.given.xs.length+1) c' 27 1 (M.given.xs.map Fl.v++[r.v]))) (k:=0) (by simp[parts])
 have h6:=h5.focusK (Ps:=((parts p M).set 15 (sl (some b') (M.given.xs.length+1) c' 27 1 (M.given.xs.map Fl.v++[r.v]))).set 0 _) (k:=16) (P:=stars (M.given.rows 3 vI)) rfl
 have h7:St B w0 (w.setCell ⟨p,3,none⟩ (.slice (some ⟨b',0,none⟩) (M.given.xs.length+1) c')) (star (stars (M.given.rows 3 vI++[r.hp 3 vI])) (star (stars ((((parts p M).set 15 (sl (some b') (M.given.xs.length+1) c' 27 1 (M.given.xs.map Fl.v++[r.v]))).set 0 (pt p 92 ((cellsM M).set 3 (.slice (some ⟨b',0,none⟩) (M.given.xs.length+1) c')))).eraseIdx 16)) F)):=h6.conseq (by rw[stars_append,stars_one];ac_rfl)
 have h8:=h7.unfocusK (Ps:=((parts p M).set 15 (sl (some b') (M.given.xs.length+1) c' 27 1 (M.given.xs.map Fl.v++[r.v]))).set 0 (pt p 92 ((cellsM M).set 3 (.slice (some ⟨b',0,none⟩) (M.given.xs.length+1) c')))) (k:=16) (by simp[parts])
 refine⟨h8.conseq ?_,hl⟩
 simp only[parts,cellsM,Fl.hp,Fl.v,Fl.outer,rows_push,List.map_append,List.map_cons,List.map_nil,List.length_append,List.length_singleton,List.set_cons_succ,List.set_cons_zero,Option.map_some]
def hole_watches (p:Nat) (M:MM) (i:Nat) (F:HP):HP:=star (stars ((M.watches.rows 3 vN).eraseIdx i)) (star (stars ((parts p M).eraseIdx 20)) F)
theorem At.row_watches (h:At B w0 w p M F) {i:Nat} {r:Fl Nat} (hi:M.watches.xs[i]?=some r):St B w0 w (star (r.hp 3 vN) (hole_watches p M i F)) :=
 (h.st.focusK (k:=20) (P:=stars (M.watches.rows 3 vN)) rfl).conseq (by rw[stars_focus (rows_get hi)];unfold hole_watches;ac_rfl)
theorem At.unrow_watches {i:Nat} {r:Fl Nat} {Q:HP} (hi:M.watches.xs[i]?=some r) (h:St B w0 w (star Q (hole_watches p M i F))):St B w0 w (star (stars ((parts p M).set 20 (stars ((M.watches.rows 3 vN).set i Q)))) F):=by
 have h1:St B w0 w (star (stars ((M.watches.rows 3 vN).set i Q)) (star (stars ((parts p M).eraseIdx 20)) F)):=h.conseq (by rw[(stars_set_split (rows_get hi) Q).2];unfold hole_watches;ac_rfl)
 exact h1.unfocusK (Ps:=parts p M) (k:=20) (by simp[parts])
theorem At.b_watches (h:At B w0 w p M F) (hi:0<M.watches.xs.length):∃ b,M.watches.a=some b:=by
 have h1:St B w0 w (star (sl M.watches.a M.watches.xs.length M.watches.c 27 1 (M.watches.xs.map Fl.v)) (star (stars ((parts p M).eraseIdx 19)) F)):=h.st.focusK (k:=19) rfl
 obtain⟨_,_,_,hn,_⟩:=h1.sat.sl_facts
 cases e:M.watches.a with
 | none=>have:=(hn e).1;omega
 | some b=>exact⟨b,rfl⟩
theorem At.t_watches (h:At B w0 w p M F):St B w0 w (star (sl M.watches.a M.watches.xs.length M.watches.c 27 1 (M.watches.xs.map Fl.v)) (star (stars ((parts p M).eraseIdx 19)) F)):=h.st.focusK (k:=19) rfl
theorem At.o_watches (h:At B w0 w p M F) {b i:Nat} (hb:M.watches.a=some b) {r:Fl Nat} (hi:M.watches.xs[i]?=some r):w.cell? ⟨b,i,none⟩=some (.slice (r.a.map fun b=>⟨b,0,none⟩) r.xs.length r.c)∧w.frozen? ⟨b,i,none⟩=false:=by
 have h1:=h.t_watches
 rw[hb] at h1
 exact⟨by rw[h1.sl_cell i (by rw[List.length_map];exact list_len_lt hi),List.getElem?_map,hi];rfl,h1.sl_free i⟩
theorem At.n_watches (h:At B w0 w p M F) {b:Nat} (hb:M.watches.a=some b):b≠p:=by
 obtain⟨G,hG⟩:=h.st.two (i:=0) (j:=19) (P:=pt p 92 (cellsM M)) (Q:=sl M.watches.a M.watches.xs.length M.watches.c 27 1 (M.watches.xs.map Fl.v)) rfl rfl (by decide)
 rw[hb] at hG
 exact hG.sat.pt_sl_ne.symm
theorem At.e_watches (h:At B w0 w p M F) {i j b:Nat} {r:Fl Nat} (hi:M.watches.xs[i]?=some r) (hb:r.a=some b) {x:Nat} (hj:r.xs[j]?=some x):w.cell? ⟨b,j,none⟩=some (vN x)∧w.frozen? ⟨b,j,none⟩=false:=by
 have h1:=h.row_watches hi
 unfold Fl.hp at h1
 rw[hb] at h1
 exact⟨by rw[h1.sl_cell j (by rw[List.length_map];exact list_len_lt hj),List.getElem?_map,hj];rfl,h1.sl_free j⟩
theorem At.rb_watches (h:At B w0 w p M F) {i:Nat} {r:Fl Nat} (hi:M.watches.xs[i]?=some r):(0<r.xs.length→∃ b,r.a=some b)∧r.xs.length≤r.c∧(∀ b,r.a=some b→b<w.heap.size∧B≤b):=by
 have h1:=h.row_watches hi
 obtain⟨_,hn,_,hnone,hsome⟩:=h1.sat.sl_facts
 refine⟨fun hp=>?_,hn,fun b e=>⟨(hsome b e).2,(hsome b e).1⟩⟩
 cases e:r.a with
 | none=>have:=(hnone e).1;omega
 | some b=>exact⟨b,rfl⟩
theorem At.eset_watches (h:At B w0 w p M F) {i j b:Nat} {r:Fl Nat} (hi:M.watches.xs[i]?=some r) (hb:r.a=some b) (hj:j<r.xs.length) (x:Nat):At B w0 (w.setCell ⟨b,j,none⟩ (vN x)) p (M.u_watches ⟨M.watches.a,M.watches.c,M.watches.xs.set i ⟨r.a,r.c,r.xs.set j x⟩⟩) F:=by
 have h1:=h.row_watches hi
 unfold Fl.hp at h1
 rw[hb] at h1
 have h2:=At.unrow_watches hi (h1.sl_set j (vN x) (by simpa using hj))
 refine⟨h2.conseq ?_,h.lastN⟩
 have e1:(M.watches.xs.set i ⟨r.a,r.c,r.xs.set j x⟩).map Fl.v=M.watches.xs.map Fl.v:=by
  rw[List.map_set]
  apply List.ext_getElem?
  intro m
  by_cases e:m=i
  ·subst e
   have hg:M.watches.xs[m]'(list_len_lt hi)=r:=(List.getElem?_eq_some_iff.1 hi).2
   simp[Fl.v,list_len_lt hi,hg]
  ·rw[List.getElem?_set_ne (fun h=>e h.symm)]
 simp only[parts,cellsM,Fl.v,Fl.hp,Fl.outer,List.length_set,List.set_cons_succ,List.set_cons_zero,rows_set,List.map_set,hb]
 simp only[Fl.v,List.map_set,List.length_set,hb] at e1
 rw[e1]
theorem At.rpush_watches {i ob b' n c':Nat} {r:Fl Nat} {x:Nat} (hl:M.last.xs=[]→M.last.a=none) (hi:M.watches.xs[i]?=some r) (hob:M.watches.a=some ob) (hn:r.xs.length=n) (h:St B w0 w (star (sl (some b') (n+1) c' 3 1 (r.xs.map vN++[vN x])) (hole_watches p M i F))) :
  (w.cell? ⟨p,6,none⟩=some (.slice (some ⟨ob,0,none⟩) M.watches.xs.length M.watches.c))∧(w.cell? ⟨ob,i,none⟩=some (.slice (r.a.map fun b=>⟨b,0,none⟩) n r.c)∧w.frozen? ⟨ob,i,none⟩=false) ∧
  At B w0 (w.setCell ⟨ob,i,none⟩ (.slice (some ⟨b',0,none⟩) (n+1) c')) p (M.u_watches ⟨M.watches.a,M.watches.c,M.watches.xs.set i ⟨some b',c',r.xs++[x]⟩⟩) F:=by
 subst hn
 have h1:=At.unrow_watches hi h
 have hil:=list_len_lt hi
 have h0:=h1.focusK (Ps:=(parts p M).set 20 _) (k:=0) (P:=pt p 92 (cellsM M)) rfl
 have h2:=h1.focusK (Ps:=(parts p M).set 20 _) (k:=19) (P:=sl M.watches.a M.watches.xs.length M.watches.c 27 1 (M.watches.xs.map Fl.v)) rfl
 have c0:=h0.pt_cell 6
 rw[hob] at h2
 refine⟨by rw[c0];simp[cellsM,Fl.v,hob],⟨by rw[h2.sl_cell i (by rw[List.length_map];exact hil),List.getElem?_map,hi];rfl,h2.sl_free i⟩,?_⟩
 have h3:=(h2.sl_set i (.slice (some ⟨b',0,none⟩) (r.xs.length+1) c') (by simpa using hil)).unfocusK (Ps:=(parts p M).set 20 (stars ((M.watches.rows 3 vN).set i (sl (some b') (r.xs.length+1) c' 3 1 (r.xs.map vN++[vN x]))))) (k:=19) (by simp[parts])
 refine⟨h3.conseq ?_,hl⟩
 simp only[parts,cellsM,Fl.v,Fl.hp,Fl.outer,List.length_set,List.set_cons_succ,List.set_cons_zero,rows_set,List.map_set,List.map_append,List.map_cons,List.map_nil,List.length_append,List.length_singleton,Option.map_some,hob]
theorem At.t_learned (h:At B w0 w p M F):St B w0 w (star (sl M.learned.a M.learned.xs.length M.learned.c 27 1 (M.learned.xs.map Fl.v)) (star (stars ((parts p M).eraseIdx 21)) F)):=h.st.focusK (k:=21) rfl
theorem At.pushrow_learned {b' n c':Nat} {r:Fl Int} (hl:M.last.xs=[]→M.last.a=none) (hn:M.learned.xs.length=n) (h:St B w0 w (star (sl (some b') (n+1) c' 27 1 (M.learned.xs.map Fl.v++[r.v])) (star (stars ((parts p M).eraseIdx 21)) (star (r.hp 3 vI) F)))) :
  (w.cell? ⟨p,18,none⟩=some (.slice (M.learned.a.map fun b=>⟨b,0,none⟩) n M.learned.c)∧w.frozen? ⟨p,18,none⟩=false)∧At B w0 (w.setCell ⟨p,18,none⟩ (.slice (some ⟨b',0,none⟩) (n+1) c')) p (M.u_learned ⟨some b',c',M.learned.xs++[r]⟩) F:=by
 subst hn
 have h2:=h.unfocusK (Ps:=parts p M) (k:=21) (by simp[parts])
 have h3:=h2.focusK (Ps:=(parts p M).set 21 _) (k:=0) (P:=pt p 92 (cellsM M)) rfl
 refine⟨⟨h3.pt_cell 18,h3.pt_free 18⟩,?_⟩
 have h4:=h3.pt_set 18 (.slice (some ⟨b',0,none⟩) (M.learned.xs.length+1) c')
 have h5:=h4.unfocusK (Ps:=(parts p M).set 21 (sl (some b') (M.learned.xs.length+1) c' 27 1 (M.learned.xs.map Fl.v++[r.v]))) (k:=0) (by simp[parts])
 have h6:=h5.focusK (Ps:=((parts p M).set 21 (sl (some b') (M.learned.xs.length+1) c' 27 1 (M.learned.xs.map Fl.v++[r.v]))).set 0 _) (k:=22) (P:=stars (M.learned.rows 3 vI)) rfl
 have h7:St B w0 (w.setCell ⟨p,18,none⟩ (.slice (some ⟨b',0,none⟩) (M.learned.xs.length+1) c')) (star (stars (M.learned.rows 3 vI++[r.hp 3 vI])) (star (stars ((((parts p M).set 21 (sl (some b') (M.learned.xs.length+1) c' 27 1 (M.learned.xs.map Fl.v++[r.v]))).set 0 (pt p 92 ((cellsM M).set 18 (.slice (some ⟨b',0,none⟩) (M.learned.xs.length+1) c')))).eraseIdx 22)) F)):=h6.conseq (by rw[stars_append,stars_one];ac_rfl)
 have h8:=h7.unfocusK (Ps:=((parts p M).set 21 (sl (some b') (M.learned.xs.length+1) c' 27 1 (M.learned.xs.map Fl.v++[r.v]))).set 0 (pt p 92 ((cellsM M).set 18 (.slice (some ⟨b',0,none⟩) (M.learned.xs.length+1) c')))) (k:=22) (by simp[parts])
 refine⟨h8.conseq ?_,hl⟩
 simp only[parts,cellsM,Fl.hp,Fl.v,Fl.outer,rows_push,List.map_append,List.map_cons,List.map_nil,List.length_append,List.length_singleton,List.set_cons_succ,List.set_cons_zero,Option.map_some]
theorem At.b_steps (h:At B w0 w p M F) (hi:0<M.steps.xs.length):∃ b,M.steps.a=some b:=by
 have h1:St B w0 w (star (sl M.steps.a M.steps.xs.length M.steps.c 27 1 (M.steps.xs.map Fl.v)) (star (stars ((parts p M).eraseIdx 23)) F)):=h.st.focusK (k:=23) rfl
 obtain⟨_,_,_,hn,_⟩:=h1.sat.sl_facts
 cases e:M.steps.a with
 | none=>have:=(hn e).1;omega
 | some b=>exact⟨b,rfl⟩
theorem At.t_steps (h:At B w0 w p M F):St B w0 w (star (sl M.steps.a M.steps.xs.length M.steps.c 27 1 (M.steps.xs.map Fl.v)) (star (stars ((parts p M).eraseIdx 23)) F)):=h.st.focusK (k:=23) rfl
theorem At.o_steps (h:At B w0 w p M F) {b i:Nat} (hb:M.steps.a=some b) {r:Fl Int} (hi:M.steps.xs[i]?=some r):w.cell? ⟨b,i,none⟩=some (.slice (r.a.map fun b=>⟨b,0,none⟩) r.xs.length r.c)∧w.frozen? ⟨b,i,none⟩=false:=by
 have h1:=h.t_steps
 rw[hb] at h1
 exact⟨by rw[h1.sl_cell i (by rw[List.length_map];exact list_len_lt hi),List.getElem?_map,hi];rfl,h1.sl_free i⟩
theorem At.pushrow_steps {b' n c':Nat} {r:Fl Int} (hl:M.last.xs=[]→M.last.a=none) (hn:M.steps.xs.length=n) (h:St B w0 w (star (sl (some b') (n+1) c' 27 1 (M.steps.xs.map Fl.v++[r.v])) (star (stars ((parts p M).eraseIdx 23)) (star (r.hp 3 vI) F)))) :
  (w.cell? ⟨p,19,none⟩=some (.slice (M.steps.a.map fun b=>⟨b,0,none⟩) n M.steps.c)∧w.frozen? ⟨p,19,none⟩=false)∧At B w0 (w.setCell ⟨p,19,none⟩ (.slice (some ⟨b',0,none⟩) (n+1) c')) p (M.u_steps ⟨some b',c',M.steps.xs++[r]⟩) F:=by
 subst hn
 have h2:=h.unfocusK (Ps:=parts p M) (k:=23) (by simp[parts])
 have h3:=h2.focusK (Ps:=(parts p M).set 23 _) (k:=0) (P:=pt p 92 (cellsM M)) rfl
 refine⟨⟨h3.pt_cell 19,h3.pt_free 19⟩,?_⟩
 have h4:=h3.pt_set 19 (.slice (some ⟨b',0,none⟩) (M.steps.xs.length+1) c')
 have h5:=h4.unfocusK (Ps:=(parts p M).set 23 (sl (some b') (M.steps.xs.length+1) c' 27 1 (M.steps.xs.map Fl.v++[r.v]))) (k:=0) (by simp[parts])
 have h6:=h5.focusK (Ps:=((parts p M).set 23 (sl (some b') (M.steps.xs.length+1) c' 27 1 (M.steps.xs.map Fl.v++[r.v]))).set 0 _) (k:=24) (P:=stars (M.steps.rows 3 vI)) rfl
 have h7:St B w0 (w.setCell ⟨p,19,none⟩ (.slice (some ⟨b',0,none⟩) (M.steps.xs.length+1) c')) (star (stars (M.steps.rows 3 vI++[r.hp 3 vI])) (star (stars ((((parts p M).set 23 (sl (some b') (M.steps.xs.length+1) c' 27 1 (M.steps.xs.map Fl.v++[r.v]))).set 0 (pt p 92 ((cellsM M).set 19 (.slice (some ⟨b',0,none⟩) (M.steps.xs.length+1) c')))).eraseIdx 24)) F)):=h6.conseq (by rw[stars_append,stars_one];ac_rfl)
 have h8:=h7.unfocusK (Ps:=((parts p M).set 23 (sl (some b') (M.steps.xs.length+1) c' 27 1 (M.steps.xs.map Fl.v++[r.v]))).set 0 (pt p 92 ((cellsM M).set 19 (.slice (some ⟨b',0,none⟩) (M.steps.xs.length+1) c')))) (k:=24) (by simp[parts])
 refine⟨h8.conseq ?_,hl⟩
 simp only[parts,cellsM,Fl.hp,Fl.v,Fl.outer,rows_push,List.map_append,List.map_cons,List.map_nil,List.length_append,List.length_singleton,List.set_cons_succ,List.set_cons_zero,Option.map_some]
end
end Go.Proofs.YthbbmdnfkkffjaaGreat
namespace Go.Proofs.YthbbmdnfkkffjaaGreat
open Go.RowKit Go.Proofs.PlaitSep Go.Proofs.PlaitPure Go.Proofs.PlaitSat
theorem clsV_len:∀ l:List (Fl Nat×Int),(clsV l).length=l.length*2
 | []=>rfl
 | x :: r=>by have:=clsV_len r;simp only[clsV,List.flatMap_cons,List.length_append,List.length_cons,List.length_nil] at this ⊢;omega
theorem clsV_get:∀ (l:List (Fl Nat×Int)) (i:Nat) (x:Fl Nat×Int),l[i]?=some x→(clsV l)[i*2]?=some x.1.v∧(clsV l)[i*2+1]?=some (vI x.2)
 | [],i,x,h=>by simp at h
 | y :: r,0,x,h=>by
  simp only[List.getElem?_cons_zero,Option.some.injEq] at h
  subst h
  exact⟨rfl,rfl⟩
 | y :: r,i+1,x,h=>by
  have:=clsV_get r i x (by simpa using h)
  have e1:(i+1)*2=i*2+1+1:=by omega
  have e2:clsV (y :: r)=y.1.v :: vI y.2 :: clsV r:=rfl
  rw[e1,e2]
  exact this
theorem clsV_append (l m:List (Fl Nat×Int)):clsV (l++m)=clsV l++clsV m:=by simp[clsV]
theorem clsV_set:∀ (l:List (Fl Nat×Int)) (i:Nat) (x y:Fl Nat×Int),l[i]?=some x→y.1.v=x.1.v→y.2=x.2→clsV (l.set i y)=clsV l
 | [],i,x,y,h,_,_=>by simp at h
 | z :: r,0,x,y,h,h1,h2=>by
  simp only[List.getElem?_cons_zero,Option.some.injEq] at h
  subst h
  show y.1.v :: vI y.2 :: clsV r=z.1.v :: vI z.2 :: clsV r
  rw[h1,h2]
 | z :: r,i+1,x,y,h,h1,h2=>by
  have:=clsV_set r i x y (by simpa using h) h1 h2
  show z.1.v :: vI z.2 :: clsV (r.set i y)=z.1.v :: vI z.2 :: clsV r
  rw[this]
theorem clsH_get {l:List (Fl Nat×Int)} {i:Nat} {x:Fl Nat×Int} (h:l[i]?=some x):(clsH l)[i]?=some (x.1.hp 98 vL):=by simp[clsH,h]
theorem clsH_set (l:List (Fl Nat×Int)) (i:Nat) (x:Fl Nat×Int):clsH (l.set i x)=(clsH l).set i (x.1.hp 98 vL):=by simp[clsH,List.map_set]
section
variable {B:Nat} {w0 w:World} {p:Nat} {M:MM} {F:HP}
theorem At.t_cls (h:At B w0 w p M F):St B w0 w (star (sl M.cls.a M.cls.xs.length M.cls.c 123 2 (clsV M.cls.xs)) (star (stars ((parts p M).eraseIdx 17)) F)):=h.st.focusK (k:=17) rfl
theorem At.b_cls (h:At B w0 w p M F) (hi:0<M.cls.xs.length):∃ b,M.cls.a=some b:=by
 obtain⟨_,_,_,hn,_⟩:=h.t_cls.sat.sl_facts
 cases e:M.cls.a with
 | none=>have:=(hn e).1;omega
 | some b=>exact⟨b,rfl⟩
theorem At.o_cls (h:At B w0 w p M F) {b i:Nat} (hb:M.cls.a=some b) {r:Fl Nat} {d:Int} (hi:M.cls.xs[i]?=some (r,d)) :
  w.cell? ⟨b,i*2,none⟩=some (.slice (r.a.map fun b=>⟨b,0,none⟩) r.xs.length r.c)∧w.cell? ⟨b,i*2+1,none⟩=some (.int .i64 d):=by
 have h1:=h.t_cls
 rw[hb] at h1
 have hl:=clsV_len M.cls.xs
 have hil:=list_len_lt hi
 obtain⟨g1,g2⟩:=clsV_get _ _ _ hi
 exact⟨by rw[h1.sl_cell (i*2) (by omega),g1];rfl,by rw[h1.sl_cell (i*2+1) (by omega),g2];rfl⟩
def hole_cls (p:Nat) (M:MM) (i:Nat) (F:HP):HP:=star (stars ((clsH M.cls.xs).eraseIdx i)) (star (stars ((parts p M).eraseIdx 18)) F)
theorem At.row_cls (h:At B w0 w p M F) {i:Nat} {r:Fl Nat} {d:Int} (hi:M.cls.xs[i]?=some (r,d)):St B w0 w (star (r.hp 98 vL) (hole_cls p M i F)) :=
 (h.st.focusK (k:=18) (P:=stars (clsH M.cls.xs)) rfl).conseq (by rw[stars_focus (clsH_get hi)];unfold hole_cls;ac_rfl)
theorem At.unrow_cls {i:Nat} {r:Fl Nat} {d:Int} {Q:HP} (hi:M.cls.xs[i]?=some (r,d)) (h:St B w0 w (star Q (hole_cls p M i F))):St B w0 w (star (stars ((parts p M).set 18 (stars ((clsH M.cls.xs).set i Q)))) F):=by
 have h1:St B w0 w (star (stars ((clsH M.cls.xs).set i Q)) (star (stars ((parts p M).eraseIdx 18)) F)):=h.conseq (by rw[(stars_set_split (clsH_get hi) Q).2];unfold hole_cls;ac_rfl)
 exact h1.unfocusK (Ps:=parts p M) (k:=18) (by simp[parts])
theorem At.e_cls (h:At B w0 w p M F) {i j b:Nat} {r:Fl Nat} {d:Int} (hi:M.cls.xs[i]?=some (r,d)) (hb:r.a=some b) {x:Nat} (hj:r.xs[j]?=some x):w.cell? ⟨b,j,none⟩=some (.int .u32 x)∧w.frozen? ⟨b,j,none⟩=false:=by
 have h1:=h.row_cls hi
 unfold Fl.hp at h1
 rw[hb] at h1
 exact⟨by rw[h1.sl_cell j (by rw[List.length_map];exact list_len_lt hj),List.getElem?_map,hj];rfl,h1.sl_free j⟩
theorem At.rb_cls (h:At B w0 w p M F) {i:Nat} {r:Fl Nat} {d:Int} (hi:M.cls.xs[i]?=some (r,d)):(0<r.xs.length→∃ b,r.a=some b)∧r.xs.length≤r.c∧(∀ b,r.a=some b→b<w.heap.size∧B≤b):=by
 have h1:=h.row_cls hi
 obtain⟨_,hn,_,hnone,hsome⟩:=h1.sat.sl_facts
 refine⟨fun hp=>?_,hn,fun b e=>⟨(hsome b e).2,(hsome b e).1⟩⟩
 cases e:r.a with
 | none=>have:=(hnone e).1;omega
 | some b=>exact⟨b,rfl⟩
theorem At.rn_cls (h:At B w0 w p M F) {i b:Nat} {r:Fl Nat} {d:Int} (hi:M.cls.xs[i]?=some (r,d)) (hb:r.a=some b):b≠p∧(∀ b',M.cls.a=some b'→b≠b')∧(∀ b',M.watches.a=some b'→b≠b')∧(∀ b',M.value.a=some b'→b≠b'):=by
 have h1:St B w0 w (star (r.hp 98 vL) (star (stars ((clsH M.cls.xs).eraseIdx i)) (star (stars ((parts p M).eraseIdx 18)) F))):=h.row_cls hi
 unfold Fl.hp at h1
 rw[hb] at h1
 refine⟨?_,fun b' hb'=>?_,fun b' hb'=>?_,fun b' hb'=>?_⟩
 ·rw[stars_focus (Ps:=(parts p M).eraseIdx 18) (k:=0) (P:=pt p 92 (cellsM M)) rfl] at h1
  have h2:St B w0 w (star (pt p 92 (cellsM M)) (star (sl (some b) r.xs.length r.c 98 1 (r.xs.map vL)) (star (stars ((clsH M.cls.xs).eraseIdx i)) (star (stars (((parts p M).eraseIdx 18).eraseIdx 0)) F)))):=h1.conseq (by ac_rfl)
  exact h2.sat.pt_sl_ne.symm
 ·rw[stars_focus (Ps:=(parts p M).eraseIdx 18) (k:=17) (P:=sl M.cls.a M.cls.xs.length M.cls.c 123 2 (clsV M.cls.xs)) rfl,hb'] at h1
  have h2:St B w0 w (star (sl (some b) r.xs.length r.c 98 1 (r.xs.map vL)) (star (sl (some b') M.cls.xs.length M.cls.c 123 2 (clsV M.cls.xs)) (star (stars ((clsH M.cls.xs).eraseIdx i)) (star (stars (((parts p M).eraseIdx 18).eraseIdx 17)) F)))):=h1.conseq (by ac_rfl)
  exact h2.sl_ne
 ·rw[stars_focus (Ps:=(parts p M).eraseIdx 18) (k:=18) (P:=sl M.watches.a M.watches.xs.length M.watches.c 27 1 (M.watches.xs.map Fl.v)) rfl,hb'] at h1
  have h2:St B w0 w (star (sl (some b) r.xs.length r.c 98 1 (r.xs.map vL)) (star (sl (some b') M.watches.xs.length M.watches.c 27 1 (M.watches.xs.map Fl.v)) (star (stars ((clsH M.cls.xs).eraseIdx i)) (star (stars (((parts p M).eraseIdx 18).eraseIdx 18)) F)))):=h1.conseq (by ac_rfl)
  exact h2.sl_ne
 ·rw[stars_focus (Ps:=(parts p M).eraseIdx 18) (k:=1) (P:=sl M.value.a M.value.xs.length M.value.c 114 1 (M.value.xs.map v8)) rfl,hb'] at h1
  have h2:St B w0 w (star (sl (some b) r.xs.length r.c 98 1 (r.xs.map vL)) (star (sl (some b') M.value.xs.length M.value.c 114 1 (M.value.xs.map v8)) (star (stars ((clsH M.cls.xs).eraseIdx i)) (star (stars (((parts p M).eraseIdx 18).eraseIdx 1)) F)))):=h1.conseq (by ac_rfl)
  exact h2.sl_ne
theorem At.eset_cls (h:At B w0 w p M F) {i j b:Nat} {r:Fl Nat} {d:Int} (hi:M.cls.xs[i]?=some (r,d)) (hb:r.a=some b) (hj:j<r.xs.length) (x:Nat):At B w0 (w.setCell ⟨b,j,none⟩ (.int .u32 x)) p (M.u_cls ⟨M.cls.a,M.cls.c,M.cls.xs.set i (⟨r.a,r.c,r.xs.set j x⟩,d)⟩) F:=by
 have h1:=h.row_cls hi
 unfold Fl.hp at h1
 rw[hb] at h1
 have h2:=At.unrow_cls hi (h1.sl_set j (.int .u32 x) (by simpa using hj))
 refine⟨h2.conseq ?_,h.lastN⟩
 have e1:clsV (M.cls.xs.set i (⟨r.a,r.c,r.xs.set j x⟩,d))=clsV M.cls.xs:=clsV_set _ _ _ _ hi (by simp[Fl.v]) rfl
 simp only[parts,cellsM,Fl.v,Fl.hp,List.length_set,List.set_cons_succ,List.set_cons_zero,clsH_set,List.map_set,hb,vL] at e1 ⊢
 rw[e1]
theorem At.pushcls {b' n c':Nat} {r:Fl Nat} {d:Int} (hl:M.last.xs=[]→M.last.a=none) (hn:M.cls.xs.length=n) (h:St B w0 w (star (sl (some b') (n+1) c' 123 2 (clsV M.cls.xs++[r.v,vI d])) (star (stars ((parts p M).eraseIdx 17)) (star (r.hp 98 vL) F)))) :
  (w.cell? ⟨p,5,none⟩=some (.slice (M.cls.a.map fun b=>⟨b,0,none⟩) n M.cls.c)∧w.frozen? ⟨p,5,none⟩=false)∧At B w0 (w.setCell ⟨p,5,none⟩ (.slice (some ⟨b',0,none⟩) (n+1) c')) p (M.u_cls ⟨some b',c',M.cls.xs++[(r,d)]⟩) F:=by
 subst hn
 have h2:=h.unfocusK (Ps:=parts p M) (k:=17) (by simp[parts])
 have h3:=h2.focusK (Ps:=(parts p M).set 17 _) (k:=0) (P:=pt p 92 (cellsM M)) rfl
 refine⟨⟨h3.pt_cell 5,h3.pt_free 5⟩,?_⟩
 have h4:=h3.pt_set 5 (.slice (some ⟨b',0,none⟩) (M.cls.xs.length+1) c')
 have h5:=h4.unfocusK (Ps:=(parts p M).set 17 (sl (some b') (M.cls.xs.length+1) c' 123 2 (clsV M.cls.xs++[r.v,vI d]))) (k:=0) (by simp[parts])
 have h6:=h5.focusK (Ps:=((parts p M).set 17 (sl (some b') (M.cls.xs.length+1) c' 123 2 (clsV M.cls.xs++[r.v,vI d]))).set 0 _) (k:=18) (P:=stars (clsH M.cls.xs)) rfl
 have h7:St B w0 (w.setCell ⟨p,5,none⟩ (.slice (some ⟨b',0,none⟩) (M.cls.xs.length+1) c')) (star (stars (clsH M.cls.xs++[r.hp 98 vL])) (star (stars ((((parts p M).set 17 (sl (some b') (M.cls.xs.length+1) c' 123 2 (clsV M.cls.xs++[r.v,vI d]))).set 0 (pt p 92 ((cellsM M).set 5 (.slice (some ⟨b',0,none⟩) (M.cls.xs.length+1) c')))).eraseIdx 18)) F)):=h6.conseq (by rw[stars_append,stars_one];ac_rfl)
 have h8:=h7.unfocusK (Ps:=((parts p M).set 17 (sl (some b') (M.cls.xs.length+1) c' 123 2 (clsV M.cls.xs++[r.v,vI d]))).set 0 (pt p 92 ((cellsM M).set 5 (.slice (some ⟨b',0,none⟩) (M.cls.xs.length+1) c')))) (k:=18) (by simp[parts])
 refine⟨h8.conseq ?_,hl⟩
 have e1:clsV (M.cls.xs++[(r,d)])=clsV M.cls.xs++[r.v,vI d]:=by rw[clsV_append];rfl
 have e2:clsH (M.cls.xs++[(r,d)])=clsH M.cls.xs++[r.hp 98 vL]:=by simp[clsH]
 have e3:(Fl.mk (some b') c' (M.cls.xs++[(r,d)])).v=.slice (some ⟨b',0,none⟩) (M.cls.xs.length+1) c':=by simp[Fl.v]
 simp only[parts,cellsM,e1,e2,e3,List.length_append,List.length_singleton,List.set_cons_succ,List.set_cons_zero]
end
end Go.Proofs.YthbbmdnfkkffjaaGreat

/-
  Parts of the proof, joined by program: Store9, Store10, Once.
-/
import Derived.Test.YthbbmdnfkkffjaaGreatZ38
namespace Go.Proofs.YthbbmdnfkkffjaaGreat
open Go.RowKit Go.Proofs.PlaitSep Go.Proofs.PlaitPure
theorem Tryz.sizeInts:(Tryz.prog.info? 27).map (·.size)=some 1:=by kernel_rfl
def AddPost (B:Nat) (w0:World) (p:Nat) (F:HP) (res:SM×Nat×Int) (e:Ending) (w':World):Prop :=
 e=.returned (.tuple #[.int .i64 res.2.1,.int .i64 res.2.2])∧∃ L',StoreAt B w0 w' p L' res.1 F
section
variable {B:Nat} {w0 w:World} {p:Nat} {L:SLay} {S:SM} {F:HP}
theorem Rd.newTwo (w:World) (x y:Int) (e:TypeId):Rd (w.alloc (.cells #[.int .i64 x,.int .i64 y] e)) (some ⟨w.heap.size,0,none⟩) 2 [x,y] :=
 ⟨rfl,by omega,fun _=>⟨w.heap.size,0,rfl,fun j hj=>by
  rw[cell_of_row _ _ _ _ _ _ (heap_alloc_new w _)]
  match j,hj with
  | 0,_=>rfl
  | 1,_=>rfl⟩⟩
def addMid (p:Nat) (L:SLay) (S:SM) (cs:List Value) (b' c' nW:Nat) (a2:Option Nat) (c2:Nat) (ws:List Int) (sv:Option Nat) (sc:Nat) (ss:List Int) (G:HP):HP :=
 star (pt p 116 cs) (star (sli 3 (some b') c' (S.begins++[(nW:Int)])) (star (sli 3 a2 c2 ws) (star (sl L.av L.W.length L.ac 27 1 (outer L.W)) (star (sli 3 sv sc ss) (star (stars (inner L.W)) G)))))
theorem StoreAt.addedLong {G:HP} {l:List Int} {k nW ln b' c' c2:Nat} {a2:Option Nat} (hw:L.W.map (fun x=>x.2.2)=S.watches) (hk:S.cls.length=k) (hnW:S.words.length=nW) (hln:l.length=ln) (hs:¬ ln<2)
  (h:St B w0 w (addMid p L S (((storeCells L S).set 2 (.slice (some ⟨b',0,none⟩) (k+1) c')).set 1 (.slice (a2.map fun b=>⟨b,0,none⟩) (nW+2+ln) c2)) b' c' nW a2 c2 (S.words++[0,1]++l) L.sv L.sc S.short G)) :
  StoreAt B w0 w p { L with wv:=a2,wc:=c2,bv:=some b',bc:=c' } (S.addC l) G:=by
 subst hk hnW hln
 refine⟨h.conseq ?_,hw⟩
 unfold storeHP addMid
 rw[S.addC_words,S.addC_begins,S.addC_short,if_neg hs,List.append_nil]
 have e1:storeCells { L with wv:=a2,wc:=c2,bv:=some b',bc:=c' } (S.addC l)=(((storeCells L S).set 2 (.slice (some ⟨b',0,none⟩) (S.cls.length+1) c')).set 1 (.slice (a2.map fun b=>⟨b,0,none⟩) (S.words.length+2+l.length) c2)):=by
  simp only[storeCells,S.addC_words,S.addC_short,S.addC_length,if_neg hs,slv,List.append_nil,List.length_append,List.length_cons,List.set_cons_succ,List.set_cons_zero,Option.map_some]
  congr 3
  omega
 rw[e1,List.append_assoc]
 show _=star (star _ (star (sli 3 a2 c2 (S.words++0 :: 1 :: l)) _)) _
 simp only[List.cons_append,List.nil_append]
 ac_rfl
theorem StoreAt.addedShort {G:HP} {l:List Int} {k nW ln ns sb sc b' c' c2:Nat} {a2:Option Nat} (hw:L.W.map (fun x=>x.2.2)=S.watches) (hk:S.cls.length=k) (hnW:S.words.length=nW) (hln:l.length=ln) (hns:S.short.length=ns) (hs:ln<2)
  (h:St B w0 w (addMid p L S ((((storeCells L S).set 2 (.slice (some ⟨b',0,none⟩) (k+1) c')).set 1 (.slice (a2.map fun b=>⟨b,0,none⟩) (nW+2+ln) c2)).set 4 (.slice (some ⟨sb,0,none⟩) (ns+1) sc)) b' c' nW a2 c2 (S.words++[0,1]++l) (some sb) sc (S.short++[(k:Int)]) G)) :
  StoreAt B w0 w p { L with wv:=a2,wc:=c2,bv:=some b',bc:=c',sv:=some sb,sc:=sc } (S.addC l) G:=by
 subst hk hnW hln hns
 refine⟨h.conseq ?_,hw⟩
 unfold storeHP addMid
 rw[S.addC_words,S.addC_begins,S.addC_short,if_pos hs]
 have e1:storeCells { L with wv:=a2,wc:=c2,bv:=some b',bc:=c',sv:=some sb,sc:=sc } (S.addC l)=((((storeCells L S).set 2 (.slice (some ⟨b',0,none⟩) (S.cls.length+1) c')).set 1 (.slice (a2.map fun b=>⟨b,0,none⟩) (S.words.length+2+l.length) c2)).set 4 (.slice (some ⟨sb,0,none⟩) (S.short.length+1) sc)):=by
  simp only[storeCells,S.addC_words,S.addC_short,S.addC_length,if_pos hs,slv,List.length_append,List.length_cons,List.length_nil,List.set_cons_succ,List.set_cons_zero,Option.map_some]
  congr 3
  omega
 rw[e1,List.append_assoc]
 simp only[List.cons_append,List.nil_append]
 ac_rfl
theorem StoreAt.dropG {P:HP} (h:StoreAt B w0 w p L S (star P F)):StoreAt B w0 w p L S F :=
 ⟨(h.st.conseq (show _=star (star (storeHP p L S) F) P by ac_rfl)).drop,h.ws⟩
theorem addF_ok {xs l:List Int} {m nW ln:Nat} (h1:onceE xs=0) (h2:onceL xs=l) (h3:S.most=m) (h4:S.words.length=nW) (h5:l.length=ln) (h6:¬ m<nW+2+ln):addF S xs=(S.addS l,S.cls.length,0):=by
 unfold addF
 rw[h1,h2,if_neg (by simp),if_neg (by rw[h3,h4,h5];exact h6)]
theorem watch_lens {xs:List Int} {l:List Int} (hS:S.Inv) (hl:l=onceL xs) (hx:onceE xs=0) (h2:¬ l.length<2) :
  ((S.addC l).watches.length≤1000000∧∀ x∈(S.addC l).watches,x.length≤1000000)∧(((S.addC l).watch (gi l 0) S.cls.length).watches.length≤1000000∧∀ x∈((S.addC l).watch (gi l 0) S.cls.length).watches,x.length≤1000000)∧(-65536≤gi l 0∧gi l 0≤65536)∧(-65536≤gi l 1∧gi l 1≤65536):=by
 have hok:=addC_cl_ok hx
 rw[←hl] at hok
 have hw:=hS.wlen
 have hi0:=litB_iff.1 (hok.lits _ (getL_mem (l:=l) (i:=0) (by omega)))
 have hi1:=litB_iff.1 (hok.lits _ (getL_mem (l:=l) (i:=1) (by omega)))
 refine⟨⟨by show S.watches.length≤_;omega,fun x hx=>by have:=hS.short x hx;omega⟩,⟨?_,?_⟩,hi0.2,hi1.2⟩
 ·rw[SM.watch_length]
  have:=topOf_le (idx_le hi0.2.1 hi0.2.2)
  show max S.watches.length _≤_
  omega
 ·intro x hx
  obtain⟨i,hi,rfl⟩:=List.getElem_of_mem hx
  have e:((S.addC l).watch (gi l 0) S.cls.length).getW i=((S.addC l).watch (gi l 0) S.cls.length).watches[i]:=by unfold SM.getW;simp[hi]
  rw[←e,SM.getW_watch,getW_addC]
  have:(S.getW i).length≤262144:=by
   by_cases hlt:i<S.watches.length
   ·have e2:S.getW i=S.watches[i]:=by unfold SM.getW;simp[hlt]
    rw[e2]
    exact hS.short _ (List.getElem_mem hlt)
   ·unfold SM.getW
    rw[List.getD_eq_getElem?_getD,List.getElem?_eq_none (by omega)]
    simp
  split
  ·rw[List.length_append];simp;omega
  ·omega
set_option maxRecDepth 100000 in
set_option maxHeartbeats 4000000 in
theorem Add_any (A:Option Addr) (n c:Nat) (xs:List Int) (h:StoreAt B w0 w p L S F) (hS:S.Inv) (hr:Rd w A n xs) (hn:n≤1000000) :
  Calls Tryz.prog 63 #[.pointer (some ⟨p,0,none⟩),.slice A n c] w (AddPost B w0 p F (addF S xs)):=by
 have hon:=once_any A n c xs w hr hn
 have H:=Lib.hid h
 have HS:=Lib.hid hS
 obtain⟨er,her⟩:∃ er,onceE xs=er:=⟨_,rfl⟩
 unfold OncePost at hon
 rw[her] at hon
 have HER:=Lib.hid her
 have hlen:=hr.len
 have hol:=onceOut_length xs []
 obtain⟨l,hl⟩:∃ l,onceL xs=l:=⟨_,rfl⟩
 rw[hl] at hon
 have hll:l.length≤n:=by rw[←hl];unfold onceL;simpa [hlen] using hol
 have HL:=Lib.hid hl
 have HON:=Lib.hid hon
 clear h hS hr her hlen hol hl hon
 by_cases hz:er=0
 ·subst hz
  obtain⟨nW,hnW⟩:∃ nW,S.words.length=nW:=⟨_,rfl⟩
  obtain⟨m,hm⟩:∃ m,S.most=m:=⟨_,rfl⟩
  obtain⟨ln,hln⟩:∃ ln,l.length=ln:=⟨_,rfl⟩
  obtain⟨k,hk⟩:∃ k,S.cls.length=k:=⟨_,rfl⟩
  have hmb:m≤262144:=by rw[←hm];exact HS.out.most
  have hwb:nW≤m:=by rw[←hm,←hnW];exact HS.out.words
  have HNW:=Lib.hid hnW
  have HM:=Lib.hid hm
  have HLN:=Lib.hid hln
  have HK:=Lib.hid hk
  rw[hln] at hll
  clear hnW hm hln hk
  go_enter Tryz.func63,Tryz.ntmps63
  go_wp2_with (go_at_call 82;go_loud (refine (HON.out).mono ?_;rintro e w1 ⟨hgood,_⟩;obtain⟨oa,oc,rfl,k1⟩:=hgood rfl;have h1:StoreAt B w0 w1 p L S (star (sli 3 oa oc l) F):=⟨(H.out.st.nest k1).conseq (by ac_rfl),H.out.ws⟩;have c0:w1.cell? ⟨p,0,none⟩=some (.int .i64 m):=(h1.tpt.pt_cell 0).trans (congrArg (fun (z:Nat)=>some (Value.int .i64 z)) HM.out);have c1:w1.cell? ⟨p,1,none⟩=some (.slice (L.wv.map fun b=>⟨b,0,none⟩) nW L.wc):=(h1.tpt.pt_cell 1).trans (congrArg (fun (z:Nat)=>some (Value.slice (L.wv.map fun b=>⟨b,0,none⟩) z L.wc)) HNW.out);have c2:w1.cell? ⟨p,2,none⟩=some (.slice (L.bv.map fun b=>⟨b,0,none⟩) k L.bc):=(h1.tpt.pt_cell 2).trans (congrArg (fun (z:Nat)=>some (Value.slice (L.bv.map fun b=>⟨b,0,none⟩) z L.bc)) HK.out);have H1:=Lib.hid h1;clear h1 k1 hgood;rw[HLN.out];unfold slv))
  go_quiet (fail)
  by_cases hroom:m<nW+2+ln
  ·have hr1:(m:Int)<(nW:Int)+2+(ln:Int):=by omega
   go_wp2
   go_ret2
   refine⟨?_,L,?_⟩
   ·unfold addF
    rw[HER.out,HL.out,if_neg (by simp),if_pos (by rw[HM.out,HNW.out,HLN.out];exact hroom)];rfl
   ·unfold addF
    rw[HER.out,HL.out,if_neg (by simp),if_pos (by rw[HM.out,HNW.out,HLN.out];exact hroom)]
    have:=H1.out.drawn (w':=w1.drewN nq) ⟨_,rfl⟩
    exact⟨(this.st.conseq (show _=star (star (storeHP p L S) F) (sli 3 oa oc l) by ac_rfl)).drop,this.ws⟩
  ·have hr1:¬ ((m:Int)<(nW:Int)+2+(ln:Int)):=by omega
   go_wp2
   have hb2:=H1.out.drawn (w':=w1.drewN nq) ⟨_,rfl⟩
   have d1:(w1.drewN nq).cell? ⟨p,1,none⟩=some (.slice (L.wv.map fun b=>⟨b,0,none⟩) nW L.wc):=c1
   have d2:(w1.drewN nq).cell? ⟨p,2,none⟩=some (.slice (L.bv.map fun b=>⟨b,0,none⟩) k L.bc):=c2
   obtain⟨w2,hw2⟩:∃ w2,w1.drewN nq=w2:=⟨_,rfl⟩
   rw[hw2] at hb2 d1 d2 ⊢
   clear hw2 c0 c1 c2
   have hfo:=hb2.tbegins
   have H2:=Lib.hid hb2
   have n1:=World.new_ne w2 _ d1
   have n2:=World.new_ne w2 _ d2
   have e1:∀ o,(w2.alloc o).cell? ⟨p,1,none⟩=some (.slice (L.wv.map fun b=>⟨b,0,none⟩) nW L.wc):=fun o=>(World.cell?_alloc_some _ _ _ (by rw[d1];rfl)).trans d1
   have e2:∀ o,(w2.alloc o).cell? ⟨p,2,none⟩=some (.slice (L.bv.map fun b=>⟨b,0,none⟩) k L.bc):=fun o=>(World.cell?_alloc_some _ _ _ (by rw[d2];rfl)).trans d2
   have z2:p<w2.heap.size:=World.block_lt_of_cell? w2 _ d2
   have hkb:k≤262144:=by rw[←HK.out];exact HS.out.refs
   have hkeep:∀ (b' c':Nat) (w':World),St B w0 w' (star (sli 3 (some b') c' (S.begins++[(nW:Int)])) (star (star (pt p 116 (storeCells L S)) (star (sli 3 L.wv L.wc S.words) (star (sl L.av L.W.length L.ac 27 1 (outer L.W)) (star (sli 3 L.sv L.sc S.short) (stars (inner L.W)))))) (star (sli 3 oa oc l) F))) →
     St B w0 w' (star (pt p 116 (storeCells L S)) (star (sli 3 (some b') c' (S.begins++[(nW:Int)])) (star (sli 3 L.wv L.wc S.words) (star (sl L.av L.W.length L.ac 27 1 (outer L.W)) (star (sli 3 L.sv L.sc S.short) (star (stars (inner L.W)) (star (sli 3 oa oc l) F)))))))
     ∧ w'.cell? ⟨p,1,none⟩=some (.slice (L.wv.map fun b=>⟨b,0,none⟩) nW L.wc)∧w'.cell? ⟨p,2,none⟩=some (.slice (L.bv.map fun b=>⟨b,0,none⟩) k L.bc)∧w'.frozen? ⟨p,2,none⟩=false:=by
    intro b' c' w' h2
    have h3:St B w0 w' (star (pt p 116 (storeCells L S)) (star (sli 3 (some b') c' (S.begins++[(nW:Int)])) (star (sli 3 L.wv L.wc S.words) (star (sl L.av L.W.length L.ac 27 1 (outer L.W)) (star (sli 3 L.sv L.sc S.short) (star (stars (inner L.W)) (star (sli 3 oa oc l) F))))))):=h2.conseq (by ac_rfl)
    refine⟨h3,?_,?_,h3.pt_free 2⟩
    ·rw[←HNW.out];exact h3.pt_cell 1
    ·rw[←HK.out];exact h3.pt_cell 2
   have HKP:=Lib.hid hkeep
   clear hkeep hb2
   go_region_law ((refine step_append_int (by rfl) _ _ _ _ (by rfl) Tryz.underlying27 Tryz.infoInt (hfo.drew.alloc _) k (by rw[S.begins_length];exact HK.out) (by rfl) _ (nW:Int) (by rfl) (by simp) (by omega) ?_;intro b' c' w3 h3;obtain⟨h4,g3,g4,g5⟩:=HKP.out _ _ _ h3))
   all_goals
    have h5:=h4.pt_set 2 (.slice (some ⟨b',0,none⟩) (k+1) c')
    obtain⟨w4,hw4⟩:∃ w4,w3.setCell ⟨p,2,none⟩ (.slice (some ⟨b',0,none⟩) (k+1) c')=w4:=⟨_,rfl⟩
    rw[hw4] at h5 ⊢
    have a1:w4.cell? ⟨p,1,none⟩=some (.slice (L.wv.map fun b=>⟨b,0,none⟩) nW L.wc):=(h5.pt_cell 1).trans (congrArg (fun (z:Nat)=>some (Value.slice (L.wv.map fun b=>⟨b,0,none⟩) z L.wc)) HNW.out)
    have hws:St B w0 w4 (star (sli 3 L.wv L.wc S.words) (star (pt p 116 ((storeCells L S).set 2 (.slice (some ⟨b',0,none⟩) (k+1) c'))) (star (sli 3 (some b') c' (S.begins++[(nW:Int)])) (star (sl L.av L.W.length L.ac 27 1 (outer L.W)) (star (sli 3 L.sv L.sc S.short) (star (stars (inner L.W)) (star (sli 3 oa oc l) F))))))):=h5.conseq (by ac_rfl)
    have HRL:=Lib.hid (show ∀ (w':World) (a:Option Nat) (c:Nat) (ws:List Int),St B w0 w' (star (sli 3 a c ws) (star (pt p 116 ((storeCells L S).set 2 (.slice (some ⟨b',0,none⟩) (k+1) c'))) (star (sli 3 (some b') c' (S.begins++[(nW:Int)])) (star (sl L.av L.W.length L.ac 27 1 (outer L.W)) (star (sli 3 L.sv L.sc S.short) (star (stars (inner L.W)) (star (sli 3 oa oc l) F)))))))→Rd w' (oa.map fun b=>⟨b,0,none⟩) ln l from fun w' a c ws hh=>HLN.out▸St.rd (hh.conseq (show _=star (sli 3 oa oc l) (star (sli 3 a c ws) (star (pt p 116 ((storeCells L S).set 2 (.slice (some ⟨b',0,none⟩) (k+1) c'))) (star (sli 3 (some b') c' (S.begins++[(nW:Int)])) (star (sl L.av L.W.length L.ac 27 1 (outer L.W)) (star (sli 3 L.sv L.sc S.short) (star (stars (inner L.W)) F)))))) by ac_rfl)) (by have:=HLN.out;omega))
    have HPT:=Lib.hid (show ∀ (w':World) (a:Option Nat) (c:Nat) (ws:List Int),St B w0 w' (star (sli 3 a c ws) (star (pt p 116 ((storeCells L S).set 2 (.slice (some ⟨b',0,none⟩) (k+1) c'))) (star (sli 3 (some b') c' (S.begins++[(nW:Int)])) (star (sl L.av L.W.length L.ac 27 1 (outer L.W)) (star (sli 3 L.sv L.sc S.short) (star (stars (inner L.W)) (star (sli 3 oa oc l) F)))))))→St B w0 w' (addMid p L S ((storeCells L S).set 2 (.slice (some ⟨b',0,none⟩) (k+1) c')) b' c' nW a c ws L.sv L.sc S.short (star (sli 3 oa oc l) F)) from fun w' a c ws hh=>hh.conseq (by unfold addMid;ac_rfl))
    have HW:=Lib.hid H2.out.ws
    clear hw4 h3 h4 g3 g4 g5 hfo d1 d2 e1 e2 n1 n2 z2 HKP h5 HON
    by_cases hs2:ln<2
    ·have hs2':(ln:Int)<2:=by omega
     obtain⟨ns,hns⟩:∃ ns,S.short.length=ns:=⟨_,rfl⟩
     have HNS:=Lib.hid hns
     have hnsb:ns≤k:=by
      rw[←hns,S.short_eq,List.length_map,←HK.out]
      unfold SM.shortN
      exact Nat.le_trans (List.length_filter_le _ _) (by rw[List.length_range];exact Nat.le_refl _)
     have HSH:=Lib.hid (show ∀ (w':World) (cs:List Value) (a:Option Nat) (c:Nat) (ws:List Int) (sc:Nat),St B w0 w' (addMid p L S cs b' c' nW a c ws L.sv sc S.short (star (sli 3 oa oc l) F))→St B w0 w' (star (sli 3 L.sv sc S.short) (star (pt p 116 cs) (star (sli 3 (some b') c' (S.begins++[(nW:Int)])) (star (sli 3 a c ws) (star (sl L.av L.W.length L.ac 27 1 (outer L.W)) (star (stars (inner L.W)) (star (sli 3 oa oc l) F))))))) from fun w' cs a c ws sc hh=>hh.conseq (by unfold addMid;ac_rfl))
     have HSI:=Lib.hid (show ∀ (w':World) (cs:List Value) (a:Option Nat) (c:Nat) (ws:List Int) (sv:Option Nat) (sc:Nat) (ss:List Int),St B w0 w' (star (sli 3 sv sc ss) (star (pt p 116 cs) (star (sli 3 (some b') c' (S.begins++[(nW:Int)])) (star (sli 3 a c ws) (star (sl L.av L.W.length L.ac 27 1 (outer L.W)) (star (stars (inner L.W)) (star (sli 3 oa oc l) F)))))))→St B w0 w' (addMid p L S cs b' c' nW a c ws sv sc ss (star (sli 3 oa oc l) F)) from fun w' cs a c ws sv sc ss hh=>hh.conseq (by unfold addMid;ac_rfl))
     clear hns
     go_wp2_with (first
      | (refine wpList_store_pt rfl 27 _ _ rfl Tryz.sizeInts h12 4 (.slice (some ⟨sb,0,none⟩) (ns+1) sc') rfl rfl rfl (by simp[storeCells]) ?_;intro w9 h13;clear h12)
      | (refine wpList_store_pt rfl 27 _ _ rfl Tryz.sizeInts h8 1 (.slice (a2.map fun b=>⟨b,0,none⟩) (nW+2+ln) c2) rfl rfl rfl (by simp[storeCells]) ?_;intro w7 h9;have c4:w7.cell? ⟨p,4,none⟩=some (.slice (L.sv.map fun b=>⟨b,0,none⟩) ns L.sc):=(h9.pt_cell 4).trans (congrArg (fun (z:Nat)=>some (Value.slice (L.sv.map fun b=>⟨b,0,none⟩) z L.sc)) HNS.out);have h10:=HSH.out _ _ _ _ _ _ h9;clear h9 h8)
      | (at_builtin;refine wpList_append_int rfl _ _ 27 3 rfl Tryz.underlying27 Tryz.infoInt h10 ns HNS.out rfl (k:Int) rfl (by omega) ?_;intro sb sc' w8 h11;have h12:=HSI.out _ _ _ _ _ _ _ _ h11;clear h10 h11)
      | (at_builtin;refine wpList_append_rd rfl _ _ 27 3 rfl Tryz.underlying27 Tryz.infoInt h6 (nW+2) (by rw[List.length_append,HNW.out];rfl) (oa.map fun b=>⟨b,0,none⟩) ln oc l (HRL.out _ _ _ _ h6) rfl rfl (by omega) ?_;intro a2 c2 w6 h7;have h8:=HPT.out _ _ _ _ h7;clear h6 h7)
      | (at_builtin;refine wpList_append_rd rfl _ _ 27 3 rfl Tryz.underlying27 Tryz.infoInt (hws.alloc _) nW HNW.out _ 2 2 [0,1] (Rd.newTwo _ 0 1 _) rfl rfl (by omega) ?_;intro a1 c1 w5 h6))
     go_ret2
     have ha:=StoreAt.addedShort HW.out HK.out HNW.out HLN.out HNS.out hs2 h13
     have he:=addF_ok HER.out HL.out HM.out HNW.out HLN.out hroom
     rw[he]
     refine⟨by rw[HK.out];rfl,{ L with wv:=a2,wc:=c2,bv:=some b',bc:=c',sv:=some sb,sc:=sc' },?_⟩
     refine (?_:StoreAt B w0 w9 p _ (S.addS l) F)
     unfold SM.addS
     rw[if_pos (by rw[HLN.out];exact hs2)]
     exact ha.dropG
    ·have hs2':¬ (ln:Int)<2:=by omega
     obtain⟨ob,hob⟩:∃ ob,oa=some ob:=by
      obtain⟨_,_,_,hnone,_⟩:=(H2.out.st.conseq (show _=star (sli 3 oa oc l) (star (storeHP p L S) F) by ac_rfl)).sat.sl_facts
      cases e:oa with
      | none=>have:=(hnone e).1;have:=HLN.out;omega
      | some b=>exact⟨b,rfl⟩
     subst hob
     have hwl:=watch_lens HS.out HL.out.symm HER.out (by rw[HLN.out];exact hs2)
     rw[HK.out] at hwl
     obtain⟨⟨hwl0,hws0⟩,⟨hwl1,hws1⟩,hx0,hx1⟩:=hwl
     have HWL:=Lib.hid hwl0
     have HWS:=Lib.hid hws0
     have HWL1:=Lib.hid hwl1
     have HWS1:=Lib.hid hws1
     have HRG:=Lib.hid (show ∀ (w':World) (L':SLay) (S':SM),StoreAt B w0 w' p L' S' (star (sli 3 (some ob) oc l) F)→∀ j,j<ln→w'.cell? ⟨ob,j,none⟩=some (.int .i64 (gi l j)) from fun w' L' S' hh j hj=>by
      have hh2:=hh.st.conseq (show _=star (sli 3 (some ob) oc l) (star (storeHP p L' S') F) by ac_rfl)
      rw[St.sl_cell (h:=hh2) j (by rw[ints_length,HLN.out];exact hj),ints_get _ _ (by rw[HLN.out];exact hj)])
     have hln2:(1:Int)<(ln:Int):=by omega
     clear hwl0 hws0 hwl1 hws1
     simp only[Option.map_some]
     go_wp2_with (first
      | (go_at_call 83;refine (watch_any (gi l 1) k HB.out hx1.1 hx1.2 (by omega) HWL1.out HWS1.out).mono ?_;rintro e w9 ⟨rfl,L9,h9,_⟩)
      | (go_at_call 83;refine (watch_any (gi l 0) k HA.out hx0.1 hx0.2 (by omega) HWL.out HWS.out).mono ?_;rintro e w8 ⟨rfl,L8,h8,_⟩;have HB:=Lib.hid h8;have q1:=HRG.out _ _ _ h8 1 (by omega);clear h8)
      | (refine wpList_store_pt rfl 27 _ _ rfl Tryz.sizeInts h8 1 (.slice (a2.map fun b=>⟨b,0,none⟩) (nW+2+ln) c2) rfl rfl rfl (by simp[storeCells]) ?_;intro w7 h9;have ha:=StoreAt.addedLong HW.out HK.out HNW.out HLN.out hs2 h9;have HA:=Lib.hid ha;have q0:=HRG.out _ _ _ ha 0 (by omega);clear ha h9 h8)
      | (at_builtin;refine wpList_append_rd rfl _ _ 27 3 rfl Tryz.underlying27 Tryz.infoInt h6 (nW+2) (by rw[List.length_append,HNW.out];rfl) (some ⟨ob,0,none⟩) ln oc l (HRL.out _ _ _ _ h6) rfl rfl (by omega) ?_;intro a2 c2 w6 h7;have h8:=HPT.out _ _ _ _ h7;clear h6 h7)
      | (at_builtin;refine wpList_append_rd rfl _ _ 27 3 rfl Tryz.underlying27 Tryz.infoInt (hws.alloc _) nW HNW.out _ 2 2 [0,1] (Rd.newTwo _ 0 1 _) rfl rfl (by omega) ?_;intro a1 c1 w5 h6))
     go_ret2
     have he:=addF_ok HER.out HL.out HM.out HNW.out HLN.out hroom
     rw[he]
     refine⟨by rw[HK.out];rfl,L9,?_⟩
     refine (?_:StoreAt B w0 w9 p _ (S.addS l) F)
     unfold SM.addS
     rw[if_neg (by rw[HLN.out];exact hs2),HK.out]
     exact h9.dropG
 ·have hz':(er != 0)=true:=by simpa using hz
  go_enter Tryz.func63,Tryz.ntmps63
  go_wp2_with (go_at_call 82;refine (HON.out).mono ?_;rintro e w1 ⟨_,hbad⟩;obtain⟨rfl,k1⟩:=hbad hz)
  go_ret2
  refine⟨?_,L,?_⟩
  ·unfold addF
   rw[if_pos (by rw[HER.out];exact hz),HER.out];rfl
  ·unfold addF
   rw[if_pos (by rw[HER.out];exact hz)]
   exact⟨(H.out.st.nest k1).conseq (emp_star _),H.out.ws⟩
end
end Go.Proofs.YthbbmdnfkkffjaaGreat
namespace Go.Proofs.YthbbmdnfkkffjaaGreat
open Go.RowKit Go.Proofs.PlaitSep Go.Proofs.PlaitPure
def SM.new (m:Int):SM:=⟨(min (max m 1) 262144).toNat,[],[]⟩
theorem SM.new_inv (m:Int):(SM.new m).Inv:=by
 refine⟨?_,Nat.zero_le _,fun i hi=>?_,Nat.zero_le _,fun i r=>?_,fun i=>?_⟩
 ·show (min (max m 1) 262144).toNat≤262144
  omega
 ·exact absurd hi (by simp[SM.new])
 ·constructor
  ·intro h
   have e:(SM.new m).getW i=[]:=rfl
   rw[e] at h;cases h
  ·rintro⟨h,_⟩
   exact absurd h (by simp[SM.new])
 ·exact List.nodup_nil
section
variable {B:Nat} {w0 w:World} {p:Nat} {L:SLay} {S:SM} {F:HP}
theorem StoreAt.word_at {wb bg k:Nat} {lits:List Int} {F:HP} (h:StoreAt B w0 w p L S F) {ref:Nat} (hr:ref<S.cls.length) (hb:L.wv=some wb) (hbg:S.begin ref=bg) (hl:(S.cl ref).lits=lits) (hk:lits.length=k) :
  w.cell? ⟨wb,bg,none⟩=some (.int .i64 ((S.cl ref).p:Nat))∧w.cell? ⟨wb,bg+1,none⟩=some (.int .i64 ((S.cl ref).q:Nat))∧∀ j,j<k→w.cell? ⟨wb,bg+(2+j),none⟩=some (.int .i64 (gi lits j)):=by
 have hh:=h.twords
 rw[hb] at hh
 have hle:=S.begin_le hr
 rw[hbg,hl,hk] at hle
 have key:∀ j,j<k+2→w.cell? ⟨wb,bg+j,none⟩=some (.int .i64 (gi (S.cl ref).words j)):=by
  intro j hj
  rw[St.sl_cell (h:=hh) (bg+j) (by rw[ints_length];omega),ints_get _ _ (by omega),←hbg,S.words_at hr (by rw[hl,hk];exact hj)]
 refine⟨key 0 (by omega),key 1 (by omega),fun j hj=>?_⟩
 have:=key (2+j) (by omega)
 rw[show gi (S.cl ref).words (2+j)=gi lits j from by rw[←hl,Nat.add_comm];rfl] at this
 exact this
end
theorem new_at (w:World) (m k:Int) (h:k=((SM.new m).most:Int)):StoreAt w.heap.size w (w.alloc (.cells #[.int .i64 k,.slice none 0 0,.slice none 0 0,.slice none 0 0,.slice none 0 0] 116)) w.heap.size ⟨none,0,none,0,none,0,none,0,[]⟩ (SM.new m) emp:=by
 subst h
 refine⟨((St.start w).pt_new _ _).conseq ?_,rfl⟩
 unfold storeHP
 have e1:(SM.new m).words=[]:=rfl
 have e2:(SM.new m).begins=[]:=rfl
 have e3:(SM.new m).short=[]:=rfl
 have e4:sl none 0 0 27 1 (outer [])=emp:=by
  funext h
  apply propext
  exact⟨fun k=>k.2.2.2,fun k=>⟨rfl,rfl,rfl,k⟩⟩
 rw[e1,e2,e3]
 simp only[sli_nil,List.length_nil,e4,star_emp,inner,List.map_nil,stars_nil]
 rfl
set_option maxHeartbeats 400000 in
theorem New_any (m:Int) (w:World) :
  Calls Tryz.prog 62 #[.int .i64 m] w fun e w'=>∃ p L,e=.returned (.pointer (some ⟨p,0,none⟩))∧StoreAt w.heap.size w w' p L (SM.new m) emp:=by
 go_enter Tryz.func62,Tryz.ntmps62
 go_wp2
 all_goals
  go_ret
  first
   | refine⟨w.heap.size,rfl,⟨none,0,none,0,none,0,none,0,[]⟩,new_at w m _ ?_⟩
   | refine⟨w.heap.size,⟨none,0,none,0,none,0,none,0,[]⟩,rfl,new_at w m _ ?_⟩
  show _=(((min (max m 1) 262144).toNat:Nat):Int)
  omega
section
variable {B:Nat} {w0 w:World} {p:Nat} {L:SLay} {S:SM} {F:HP}
set_option maxHeartbeats 400000 in
theorem St.sl_empty (w:World) (e:TypeId):St w.heap.size w (w.alloc (.cells #[] e)) (star (sl (some w.heap.size) 0 0 e 1 []) emp):=by
 have h1:=(St.start w).pt_new #[] e
 exact⟨h1.below,h1.base,h1.sat.pt_sl rfl (Nat.le_refl _) (Nat.zero_le _) (by simp) rfl⟩
set_option maxHeartbeats 400000 in
theorem Clone_any (b o n c:Nat) (xs:List Int) (w:World) (hr:Rd w (some ⟨b,o,none⟩) n xs) (hn:n≤1000000) :
  Calls Tryz.prog 66 #[.slice (some ⟨b,o,none⟩) n c] w fun e w'=>∃ a c',e=.returned (slv a xs.length c')∧St w.heap.size w w' (sli 3 a c' xs):=by
 have HR:=Lib.hid hr
 have q:∀ (w:World) (a:Option Addr) (n c n' c':Nat),(binOp .eql 27 (.slice a n c) (.slice none n' c')).run Tryz.prog w=.ok (.bool a.isNone) w:=fun w a n c n' c'=>Lib.run_eql_slice_nil w _ _ a n c n' c' Tryz.underlying27
 have HE:=Lib.hid (St.sl_empty w 3)
 clear hr
 go_enter Tryz.func66,Tryz.ntmps66
 go_wp2_with (at_builtin;refine wpList_append_rd rfl _ _ 27 3 rfl Tryz.underlying27 Tryz.infoInt (show St w.heap.size w _ (star (sli 3 (some w.heap.size) 0 []) emp) from HE.out) 0 rfl _ n c xs (HR.out.grow HE.out.below) rfl rfl (by omega) ?_;intro a' c' w1 h1)
 go_ret
 refine⟨a',c',?_,?_⟩
 ·rw[HR.out.len];simp[slv]
 ·exact (h1.conseq (star_emp _))
def ClausePost (B:Nat) (w0:World) (p:Nat) (L:SLay) (S:SM) (F:HP) (ref:Int) (e:Ending) (w':World):Prop :=
 (0≤ref∧ref<S.cls.length→∃ a c,e=.returned (.tuple #[slv a (S.cl ref.toNat).lits.length c,.int .i64 0])∧StoreAt B w0 w' p L S (star (sli 3 a c (S.cl ref.toNat).lits) F)) ∧
 (¬ (0≤ref∧ref<S.cls.length)→e=.returned (.tuple #[.slice none 0 0,.int .i64 113])∧w=w')
set_option maxRecDepth 100000 in
set_option maxHeartbeats 1000000 in
theorem Clause_any (ref:Int) (h:StoreAt B w0 w p L S F) (hS:S.Inv) :
  Calls Tryz.prog 64 #[.pointer (some ⟨p,0,none⟩),.int .i64 ref] w (ClausePost (w:=w) B w0 p L S F ref):=by
 have c2:=h.tpt.pt_cell 2
 obtain⟨k,hk⟩:∃ k,S.cls.length=k:=⟨_,rfl⟩
 simp only[storeCells,slv,hk] at c2
 have H:=Lib.hid h
 have HS:=Lib.hid hS
 have HK:=Lib.hid hk
 clear h hS hk
 by_cases h0:ref<0
 ·go_enter Tryz.func64,Tryz.ntmps64
  go_wp2
  go_ret2
  exact⟨fun hh=>absurd hh.1 (by omega),fun _=>⟨rfl,rfl⟩⟩
 ·by_cases h1:(k:Int)≤ref
  ·go_enter Tryz.func64,Tryz.ntmps64
   go_wp2
   go_ret2
   exact⟨fun hh=>absurd hh.2 (by rw[HK.out];omega),fun _=>⟨rfl,rfl⟩⟩
  ·obtain⟨i,rfl⟩:∃ i:Nat,ref=(i:Int):=⟨ref.toNat,by omega⟩
   have hik:i<S.cls.length:=by have:=HK.out;omega
   have hw:S.words.length≤262144:=Nat.le_trans HS.out.words HS.out.most
   have hcl:=clause_any i H.out hik hw
   obtain⟨bg,hbg⟩:∃ bg,S.begin i=bg:=⟨_,rfl⟩
   obtain⟨ln,hln⟩:∃ ln,(S.cl i).lits.length=ln:=⟨_,rfl⟩
   have hle:=S.begin_le hik
   rw[hbg,hln] at hcl hle
   have hrd:∀ (w':World),Drawn w w'→∀ wb,L.wv=some wb→Rd w' (some ⟨wb,bg+2,none⟩) ln (S.cl i).lits:=fun w' hd wb hwb=>⟨hln,by omega,fun _=>⟨wb,bg+2,rfl,fun j hj=>by
    have:=((H.out.drawn hd).word_at hik hwb hbg rfl rfl).2.2 j (by rw[hln];exact hj)
    rw[show bg+(2+j)=bg+2+j by omega] at this
    exact this⟩⟩
   have HCL:=Lib.hid hcl
   have HRD:=Lib.hid hrd
   have HLN:=Lib.hid hln
   clear hcl hrd hbg hln hik
   by_cases hz:ln=0
   ·subst hz
    have hnil:(S.cl i).lits=[]:=List.eq_nil_of_length_eq_zero HLN.out
    have HNIL:=Lib.hid hnil
    clear hnil
    go_enter Tryz.func64,Tryz.ntmps64
    go_wp2_with (first
     | (go_at_call 84;refine (HCL.out).mono ?_;rintro e w1 ⟨⟨wb,hwb,rfl⟩,hD⟩;have h1':=H.out.drawn hD;have H1:=Lib.hid h1';clear h1')
     | (go_at_call 66;refine (Clone_any wb bg 0 0 [] w1 ⟨rfl,by omega,fun h=>absurd h (by omega)⟩ (by omega)).mono ?_;rintro e w2 ⟨a,c',rfl,h2⟩))
    go_ret2
    unfold ClausePost
    rw[Int.toNat_natCast,HNIL.out]
    refine⟨fun _=>⟨a,c',rfl,?_⟩,fun hh=>absurd ⟨by omega,by have:=HK.out;omega⟩ hh⟩
    exact⟨(H1.out.st.nest h2).conseq (by ac_rfl),H1.out.ws⟩
   ·go_enter Tryz.func64,Tryz.ntmps64
    go_wp2_with (first
     | (go_at_call 84;refine (HCL.out).mono ?_;rintro e w1 ⟨⟨wb,hwb,rfl⟩,hD⟩;have hr1:=HRD.out _ hD _ hwb;have HR1:=Lib.hid hr1;have h1':=H.out.drawn hD;have H1:=Lib.hid h1';clear hr1 h1')
     | (go_at_call 66;refine (Clone_any _ _ _ _ _ _ HR1.out (by omega)).mono ?_;rintro e w2 ⟨a,c',rfl,h2⟩))
    go_ret2
    unfold ClausePost
    rw[Int.toNat_natCast]
    refine⟨fun _=>⟨a,c',rfl,?_⟩,fun hh=>absurd ⟨by omega,by have:=HK.out;omega⟩ hh⟩
    exact⟨(H1.out.st.nest h2).conseq (by ac_rfl),H1.out.ws⟩
end
end Go.Proofs.YthbbmdnfkkffjaaGreat
namespace Go.Proofs.YthbbmdnfkkffjaaGreat
open Go.RowKit Go.Proofs.PlaitSep Go.Proofs.PlaitPure
theorem onceOut_le (xs:List Int):∀ out:List Int,(onceOut out xs).length≤out.length+xs.length:=by
 induction xs with
 | nil=>intro out;simp[onceOut]
 | cons x r ih =>
  intro out
  have h1:=ih (if x∈out then out else out++[x])
  have h2:(if x∈out then out else out++[x]).length≤out.length+1:=by split <;> simp
  have e:onceOut out (x :: r)=onceOut (if x∈out then out else out++[x]) r:=rfl
  rw[e,List.length_cons]
  omega
theorem addS_first (l:List Int):((SM.new 262144).addS l).cls.length=1∧(((SM.new 262144).addS l).cl 0).lits=l:=by
 unfold SM.addS
 split
 ·exact⟨rfl,rfl⟩
 ·exact⟨rfl,rfl⟩
set_option maxRecDepth 100000 in
set_option maxHeartbeats 2000000 in
theorem sonce_any (A:Option Addr) (n c:Nat) (xs:List Int) (w:World) (hr:Rd w A n xs) (hn:n≤200000) :
  Calls Tryz.prog 42 #[.slice A n c] w (OncePost w xs):=by
 have hl:(onceL xs).length≤200000:=by have h1:=onceOut_le xs [];have h2:=hr.len;show (onceOut [] xs).length≤_;simp at h1;omega
 have HR:=Lib.hid hr
 have HL:=Lib.hid hl
 clear hr hl
 go_enter Tryz.func42,Tryz.ntmps42
 go_wp2_with fail
 refine (New_any 262144 w).mono ?_
 rintro e w1 ⟨p,L,rfl,h1⟩
 have hinv:=SM.new_inv 262144
 have HA:=Lib.hid (Add_any A n c xs h1 hinv (HR.out.grow h1.st.below) (by omega))
 obtain⟨R,hR⟩:∃ R,addF (SM.new 262144) xs=R:=⟨_,rfl⟩
 rw[hR] at HA
 have HRR:=Lib.hid hR
 clear h1 hinv hR
 go_wp2_with fail
 refine HA.out.mono ?_
 rintro e w2 ⟨rfl,L2,h2⟩
 have H2:=Lib.hid h2
 clear h2 HA
 by_cases h0:onceE xs=0
 ·have hR:R=((SM.new 262144).addS (onceL xs),0,0):=by
   rw[←HRR.out]
   unfold addF
   rw[if_neg (by simpa using h0),if_neg (by have:=HL.out;show ¬ (262144:Nat)<0+2+_;omega)]
   rfl
  have hinv:R.1.Inv:=by rw[hR];exact (SM.new_inv 262144).addS h0 (by have:=HL.out;show 0+2+_≤262144;omega)
  have hcl:R.1.cls.length=1∧(R.1.cl 0).lits=onceL xs:=by rw[hR];exact addS_first _
  have e2:R.2.1=0:=by rw[hR]
  have e3:R.2.2=0:=by rw[hR]
  rw[e2,e3]
  have HC:=Lib.hid (Clause_any 0 H2.out hinv)
  have HCL:=Lib.hid hcl
  have H0:=Lib.hid h0
  have hw1:=H2.out.st.below
  clear hR hinv hcl e2 e3 h0
  go_wp2_with fail
  refine HC.out.mono ?_
  rintro e w3 hp
  obtain⟨a,c',he,h3⟩:=hp.1 ⟨by omega,by rw[HCL.out.1];omega⟩
  rw[show (0:Int).toNat=0 from rfl,HCL.out.2] at he h3
  subst he
  have H3:=Lib.hid h3
  clear h3 hp HC
  go_wp2
  go_ret2
  refine⟨fun _=>⟨a,c',rfl,?_⟩,fun h=>absurd H0.out h⟩
  have h9:=H3.out.st.dropl
  rw[star_emp] at h9
  exact h9
 ·have hR:R.2=(0,onceE xs):=by
   rw[←HRR.out]
   unfold addF
   rw[if_pos h0]
  have e3:R.2.2=onceE xs:=by rw[hR]
  obtain⟨er,her⟩:∃ e,onceE xs=e:=⟨_,rfl⟩
  rw[her] at h0 e3
  have e4:decide (er=0)=false:=by simpa using h0
  rw[e3]
  have HER:=Lib.hid her
  clear hR e3 her
  go_wp2
  go_ret2
  refine⟨fun h=>absurd (HER.out.symm.trans h) h0,fun _=>⟨by rw[HER.out];rfl,?_⟩⟩
  exact⟨H2.out.st.below,H2.out.st.base,Sat.emp _ _⟩
end Go.Proofs.YthbbmdnfkkffjaaGreat

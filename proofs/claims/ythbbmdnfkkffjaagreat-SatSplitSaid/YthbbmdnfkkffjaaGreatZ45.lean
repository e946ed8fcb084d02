/-
  Parts of the proof, joined by program: Der5, Set.
-/
import Derived.Test.YthbbmdnfkkffjaaGreatZ44
import Derived.Test.YthbbmdnfkkffjaaGreatZ34
namespace Go.Proofs.YthbbmdnfkkffjaaGreat
open Go.RowKit Go.Proofs.PlaitSep Go.Proofs.PlaitPure
theorem clauseF_len {G D:List (List Int)} {q:Int} {c:List Int} (hG:∀ g∈G,g.length≤1000000) (hD:∀ d∈D,d.length≤1000000) (h:clauseF G D q=some c):c.length≤1000000:=by
 unfold clauseF at h
 split at h
 ·cases h
 ·split at h
  ·have:=setF_len h
   have:=hG (gl G q.toNat) (by rw[gl_eq G _ (by omega)];exact List.getElem_mem _)
   omega
  ·cases h
   exact hD _ (by rw[gl_eq D _ (by omega)];exact List.getElem_mem _)
theorem resF_len {c d e:List Int} (h:resF c d=some e):e.length≤c.length+d.length:=by
 unfold resF at h
 split at h
 ·have h1:=setF_len h
  unfold resA at h1
  rw[List.length_append] at h1
  rename_i x _
  have h2:=List.length_filter_le (fun y=>y != x) c
  have h3:=List.length_filter_le (fun y=>y != -x) d
  omega
 ·cases h
theorem Rd.from1 {w:World} {b o n:Nat} {xs:List Int} (h:Rd w (some ⟨b,o,none⟩) n xs):Rd w (some ⟨b,o+1,none⟩) (n-1) (xs.drop 1):=by
 have hl:=h.len
 refine⟨by rw[List.length_drop];omega,by have:=h.small;omega,fun hp=>⟨b,o+1,rfl,fun j hj=>?_⟩⟩
 obtain⟨b',o',e,hc⟩:=h.cells (by omega)
 obtain⟨rfl,rfl⟩:b=b'∧o=o':=by simpa using e
 have:=hc (j+1) (by omega)
 rw[show o+1+j=o+(j+1) by omega,this]
 simp[gi,List.getD_eq_getElem?_getD]
set_option maxRecDepth 100000 in
set_option maxHeartbeats 4000000 in
theorem tstep_any (p:Nat) (AG:Option Addr) (nG cG:Nat) (AD:Option Addr) (nD cD:Nat) (G D:List (List Int)) (AS:Option Addr) (nS cS:Nat) (s:List Int) (w:World) (h:DerAt w p AG nG cG AD nD cD G D) (hG:nG≤1000000) (hD:nD≤1000000) (hGs:∀ g∈G,g.length≤1000000)
  (hDs:∀ d∈D,d.length≤1000000) (hset:∀ d∈D,IsSet d) (hs:Rd w AS nS s) (hn:nS≤100000) (hcap:nS≤cS) :
  Calls Tryz.prog 99 #[.pointer (some ⟨p,0,none⟩),.agg #[.slice AS nS cS]] w (ClPost w (stepF G D s)):=by
 have HCL:=Lib.hid (show ∀ V q,Below w.heap.size w V→Calls Tryz.prog 110 #[.pointer (some ⟨p,0,none⟩),.int .i64 q] V (ClPost V (clauseF G D q)) from fun V q hV=>tclause_any p AG nG cG AD nD cD G D q V (h.grow hV) hG hD hGs)
 have HLEN:=Lib.hid (show ∀ q c,clauseF G D q=some c→c.length≤1000000∧IsSet c from fun q c hc=>⟨clauseF_len hGs hDs hc,clauseF_set hset hc⟩)
 have HS:=Lib.hid hs
 have hsl:=hs.len
 have HSL:=Lib.hid hsl
 have hb0:Below w.heap.size w (w.alloc (.cells #[.slice AS nS cS] 106)):=(Below.refl _ _).alloc (Nat.le_refl _) _
 have HB0:=Lib.hid hb0
 have HST0:=Lib.hid ((St.start w).pt_new #[.slice AS nS cS] 106)
 clear h hGs hDs hset hs hsl hb0
 by_cases hn0:nS=0
 ·subst hn0
  have hnil:s=[]:=List.eq_nil_of_length_eq_zero HSL.out
  have hnone:stepF G D s=none:=by rw[hnil,stepF]
  have HN:=Lib.hid hnone
  clear hnil hnone
  go_enter Tryz.func99,Tryz.ntmps99
  go_wp2
  go_ret2
  exact clPost_none HB0.out HN.out
 obtain⟨q,r,hqr⟩:∃ q r,s=q :: r:=by
  match s,HSL.out with
  | q :: r,_=>exact⟨q,r,rfl⟩
  | [],hl=>simp at hl;omega
 have hstep:stepF G D s=match clauseF G D q with
   | none=>none
   | some c=>foldR G D c r:=by rw[hqr];rfl
 have HSTEP:=Lib.hid hstep
 obtain⟨bs,os,hA,hcell⟩:=HS.out.cells (by omega)
 subst hA
 have hd0:w.cell? ⟨bs,os,none⟩=some (.int .i64 q):=by
  have:=hcell 0 (by omega)
  rw[Nat.add_zero] at this
  rw[this,hqr]
  rfl
 have hlt0:=World.block_lt_of_cell? w _ hd0
 have HD0:=Lib.hid (show ∀ V:World,Below w.heap.size w V→V.cell? ⟨bs,os,none⟩=some (.int .i64 q) from fun V hb=>(hb.cell hlt0).trans hd0)
 have hrlen:r.length=nS-1:=by have:=HSL.out;rw[hqr] at this;simp at this;omega
 have HRL:=Lib.hid hrlen
 have hrd1:∀ V,Below w.heap.size w V→Rd V (some ⟨bs,os+1,none⟩) (nS-1) r:=fun V hV=>by
  have:=Rd.from1 (HS.out.grow hV)
  rwa [hqr] at this
 have HRD1:=Lib.hid hrd1
 have n0:(0:Int)<(nS:Int):=by omega
 have e0:((nS:Int)==0)=false:=by simp;omega
 have d1:=HD0.out _ HB0.out
 clear hqr hstep hcell hd0 hlt0 hrlen hrd1
 go_enter Tryz.func99,Tryz.ntmps99
 go_wp2_with fail
 refine (HCL.out _ q HB0.out).mono ?_
 rintro e w2 ⟨hb2,hgood,hbad⟩
 have HB2:=Lib.hid (HB0.out.trans (hb2.mono (by simp)))
 have HST2:=Lib.hid (HST0.out.grow hb2)
 have HGOOD:=Lib.hid hgood
 have HBAD:=Lib.hid hbad
 have d2:w2.cell? ⟨w.heap.size,0,none⟩=some (.slice (some ⟨bs,os,none⟩) nS cS):=by
  rw[St.pt_cell HST2.out 0]
  rfl
 clear hb2 hgood hbad d1
 cases hc:clauseF G D q with
 | none =>
  have he:=HBAD.out hc
  subst he
  have HN:=Lib.hid (show stepF G D s=none by rw[HSTEP.out,hc])
  clear hc
  go_wp2
  go_ret2
  exact clPost_none HB2.out HN.out
 | some c =>
  obtain⟨A1,k1,rfl,hrd⟩:=HGOOD.out c hc
  obtain⟨hclen,hcset⟩:=HLEN.out q c hc
  have HF:=Lib.hid (show stepF G D s=foldR G D c r by rw[HSTEP.out,hc])
  have HRDC:=Lib.hid hrd
  have HCS:=Lib.hid hcset
  obtain⟨cl,hcl⟩:∃ cl,c.length=cl:=⟨_,rfl⟩
  rw[hcl] at hclen ⊢
  have HCLN:=Lib.hid hcl
  clear hc hrd hcset hcl HGOOD HBAD HSTEP
  by_cases hn1:nS=1
  ·subst hn1
   have hr0:r=[]:=List.eq_nil_of_length_eq_zero (by rw[HRL.out])
   have hf:stepF G D s=some c:=by rw[HF.out,hr0,foldR]
   have HF2:=Lib.hid hf
   clear hr0 hf
   go_wp2
   go_ret2
   refine⟨HB2.out,fun c' hc'=>?_,fun hc'=>(by rw[HF2.out] at hc';cases hc')⟩
   rw[HF2.out] at hc'
   cases hc'
   exact⟨A1,k1,by rw[HCLN.out];rfl,HRDC.out⟩
  ·have e1:((nS:Int)==1)=false:=by simp;omega
   have hmm:=@run_makeMap Tryz.prog
   have hlt2:=World.block_lt_of_cell? w2 _ d2
   have HCELL:=Lib.hid (show ∀ V,Below w2.heap.size w2 V→V.cell? ⟨w.heap.size,0,none⟩=some (.slice (some ⟨bs,os,none⟩) nS cS) from fun V hV=>(hV.cell hlt2).trans d2)
   have HBV:=Lib.hid (show ∀ V,Below w2.heap.size w2 V→Below w.heap.size w V from fun V hV=>HB2.out.trans (hV.mono HST2.out.base))
   clear hlt2 HD0
   go_wp2
   go_loopw [41] (fun v41 wr=>∃ j:Nat,j≤cl∧v41=.int .i64 j∧Hid (St w2.heap.size w2 wr (star (ms Tryz.prog 3 3 w2.heap.size j (c.take j)) emp))) (fun v41 _=>cl-(intOf v41).toNat)
   case atStart=>exact⟨0,Nat.zero_le _,rfl,(St.ms_new (St.start w2):St w2.heap.size w2 _ (star (ms Tryz.prog 3 3 w2.heap.size 0 (c.take 0)) emp))⟩
   case round =>
    obtain⟨j,hj,rfl,H⟩:=hrel
    by_cases hjn:j<cl
    ·obtain⟨bc,oc,hA,hcell⟩:=(HRDC.out.grow H.out.below).cells (by rw[HCLN.out];omega)
     subst hA
     have d1:=hcell j (by rw[HCLN.out];exact hjn)
     obtain⟨x,hx⟩:∃ x,gi c j=x:=⟨_,rfl⟩
     rw[hx] at d1
     have hxok:okLit x=true:=by rw[←hx,gi_eq c j (by rw[HCLN.out];exact hjn)];exact HCS.out.lits _ (List.getElem_mem _)
     have hwf:=wf_lit hxok
     have htk:c.take (j+1)=c.take j++[x]:=by rw[take_gi c j (by rw[HCLN.out];exact hjn),hx]
     have HTK:=Lib.hid htk
     have j0:(0:Int)≤(j:Int):=by omega
     have j1:(j:Int)<(cl:Int):=by omega
     clear hcell hx hxok htk
     go_wp2_with (refine wpList_ms_put rfl _ _ _ rfl H.out Tryz.keyedInt Tryz.underlying102 Tryz.underlying3 Tryz.underlying3 (by unfold maxLen;omega) x rfl rfl rfl hwf ?_;intro w3 h3 hg3;have H3:=Lib.hid h3;clear h3 hg3)
     go_roundw
     case rel=>exact⟨j+1,by omega,by go_num,(by rw[HTK.out];exact H3.out:St w2.heap.size w2 _ (star (ms Tryz.prog 3 3 w2.heap.size (j+1) (c.take (j+1))) emp))⟩
     case measure=>simp[intOf];omega
    ·obtain rfl:j=cl:=by omega
     have hms:St w2.heap.size w2 wr (star (ms Tryz.prog 3 3 w2.heap.size j c) emp):=by
      have:=H.out
      rwa [List.take_of_length_le (by rw[HCLN.out];exact Nat.le_refl _)] at this
     have d3:=HCELL.out wr H.out.below
     have HMS:=Lib.hid hms
     have n1:(1:Int)≤(nS:Int):=by omega
     have n2:(nS:Int)≤(cS:Int):=by omega
     have hM:∃ M,nS=M+1:=⟨nS-1,by omega⟩
     clear hms H
     go_wp2
     go_loopw [52] (fun v52 wr=>∃ i:Nat,i≤nS-1∧v52=.int .i64 i∧∃ (m:Nat) (cur:List Int),m≤(i+1)*1000000∧cur.length≤(i+1)*1000000∧Hid (St w2.heap.size w2 wr (star (ms Tryz.prog 3 3 w2.heap.size m cur) emp)) ∧
      Hid (IsSet cur)∧Hid (stepF G D s=foldR G D cur (r.drop i))) (fun v52 _=>(nS-1)-(intOf v52).toNat)
     case atStart=>exact⟨0,Nat.zero_le _,rfl,j,c,by omega,by rw[HCLN.out];omega,HMS.out,HCS.out,(HF.out:stepF G D s=foldR G D c (r.drop 0))⟩
     case round =>
      obtain⟨i,hi,rfl,m,cur,hm,hcur,H,HC,HFR⟩:=hrel
      by_cases hin:i<nS-1
      ·obtain⟨b9,o9,hA,hcell⟩:=(HRD1.out _ (HBV.out _ H.out.below)).cells (by omega)
       obtain⟨rfl,rfl⟩:bs=b9∧os+1=o9:=by simpa using hA
       have d1:=hcell i hin
       have hil:i<r.length:=by rw[HRL.out];exact hin
       have hdrop:r.drop i=gi r i :: r.drop (i+1):=by rw[List.drop_eq_getElem_cons hil,gi_eq r i hil]
       obtain⟨x,hx⟩:∃ x,gi r i=x:=⟨_,rfl⟩
       rw[hx] at d1 hdrop
       have hfr:stepF G D s=foldR G D cur (x :: r.drop (i+1)):=by rw[HFR.out,hdrop]
       have HFR2:=Lib.hid hfr
       have i0:(0:Int)≤(i:Int):=by omega
       have i1:(i:Int)<((nS-1:Nat):Int):=by omega
       clear hA hcell hx hil hdrop hfr HFR
       go_wp2_with fail
       refine (HCL.out _ x (HBV.out _ H.out.below)).mono ?_
       rintro e w3 ⟨hb3,hgood,hbad⟩
       have HST3:=Lib.hid (H.out.grow hb3)
       have HGOOD:=Lib.hid hgood
       have HBAD:=Lib.hid hbad
       clear hb3 hgood hbad d1
       cases hcx:clauseF G D x with
       | none =>
        have he:=HBAD.out hcx
        subst he
        have HN:=Lib.hid (show stepF G D s=none by rw[HFR2.out,foldR,hcx])
        clear hcx
        go_wp2
        go_ret2
        exact clPost_none (HBV.out _ HST3.out.below) HN.out
       | some d =>
        obtain⟨A3,k3,rfl,hrd⟩:=HGOOD.out d hcx
        obtain⟨hdlen,hdset⟩:=HLEN.out x d hcx
        have hf:stepF G D s=match resF cur d with
         | none=>none
         | some c'=>foldR G D c' (r.drop (i+1)):=by rw[HFR2.out,foldR,hcx];rfl
        have HF3:=Lib.hid hf
        have HRD3:=Lib.hid hrd
        have HDS:=Lib.hid hdset
        obtain⟨dl,hdl⟩:∃ dl,d.length=dl:=⟨_,rfl⟩
        have HDL:=Lib.hid hdl
        rw[hdl] at hdlen ⊢
        clear hcx hrd hdset hf hdl HGOOD HBAD
        have hmm2:(i+1)*1000000≤100000000000:=by omega
        go_wp2_with fail
        refine (tresolve_any HST3.out A3 dl k3 d (by have:=HRD3.out;rwa [HDL.out] at this) HDS.out.lits (by omega) hdlen).mono ?_
        rintro e w4 ⟨hgood,hbad⟩
        have HGOOD:=Lib.hid hgood
        have HBAD:=Lib.hid hbad
        clear hgood hbad
        by_cases hone:(pivD cur d).length=1
        ·obtain⟨l,hl⟩:∃ l,pivD cur d=[l]:=by
          match hp:pivD cur d,hone with
          | [l],_=>exact⟨l,rfl⟩
         obtain⟨rfl,_,t,ht,hmem⟩:=HGOOD.out l hl
         obtain⟨e,he1,he2,he3⟩:=resF_pivD HC.out HDS.out hl
         have hst4:St w2.heap.size w2 w4 (star (ms Tryz.prog 3 3 w2.heap.size (m+d.length) e) emp):=by
          rw[ms_congr (s:=e) (t:=t) fun z=>by rw[he3,hmem]]
          exact ht
         have H4:=Lib.hid hst4
         have helen:=resF_len he1
         have hnew:stepF G D s=foldR G D e (r.drop (i+1)):=by rw[HF3.out,he1]
         have HNEW:=Lib.hid hnew
         have HE2:=Lib.hid he2
         have hdl2:=HDL.out
         clear hl ht hmem he1 he2 he3 hst4 hnew hone HGOOD HBAD
         go_wp2
         go_roundw
         case rel=>exact⟨i+1,by omega,by go_num,m+d.length,e,by omega,by omega,H4.out,HE2.out,HNEW.out⟩
         case measure=>simp[intOf];omega
        ·obtain⟨rfl,h4⟩:=HBAD.out hone
         have H4:=Lib.hid h4
         have hno:=resF_pivD_not HDS.out hone
         have HN:=Lib.hid (show stepF G D s=none by rw[HF3.out,hno])
         clear h4 hno hone
         go_wp2
         go_ret2
         exact clPost_none (HBV.out _ H4.out.below) HN.out
      ·obtain rfl:i=nS-1:=by omega
       have hfin:stepF G D s=some cur:=by
        have:=HFR.out
        rwa [List.drop_of_length_le (by rw[HRL.out];exact Nat.le_refl _),foldR] at this
       have HFIN:=Lib.hid hfin
       clear hfin HFR
       go_wp2_with fail
       refine (keys_any _ _).mono ?_
       rintro e w3 ⟨rfl,rfl⟩
       go_wp2_with fail
       refine (sortedKeys_any H.out HC.out (fun z=>Iff.rfl) (by omega)).mono ?_
       rintro e w4 ⟨A4,k4,rfl,hb4,hrd⟩
       have HB4:=Lib.hid hb4
       have HRD4:=Lib.hid hrd
       clear hb4 hrd
       go_wp2
       go_ret2
       refine⟨(HBV.out _ H.out.below).trans (HB4.out.mono (HBV.out _ H.out.below).size),fun c' hc'=>?_,fun hc'=>(by rw[HFIN.out] at hc';cases hc')⟩
       rw[HFIN.out] at hc'
       cases hc'
       exact⟨A4,k4,rfl,HRD4.out⟩
end Go.Proofs.YthbbmdnfkkffjaaGreat
namespace Go.Proofs.YthbbmdnfkkffjaaGreat
open Go.RowKit Go.Proofs.PlaitSep Go.Proofs.PlaitPure
def SetPost (H:Nat) (w:World) (xs:List Int) (e:Ending) (w':World):Prop :=
 (∀ s,setF xs=some s→∃ a c,e=.returned (.tuple #[slv a s.length c,.bool true])∧St H w w' (sli 3 a c s)) ∧
 (setF xs=none→e=.returned (.tuple #[.slice none 0 0,.bool false])∧St H w w' emp)
set_option maxRecDepth 100000 in
set_option maxHeartbeats 1000000 in
theorem rset_any (A:Option Addr) (n cap:Nat) (xs:List Int) (w:World) (hr:Rd w A n xs) (hn:n≤1000000) :
  Calls Tryz.prog 27 #[.slice A n cap] w (SetPost w.heap.size w xs):=by
 have hl:=Lib.hid hr.len
 go_enter Tryz.func27,Tryz.ntmps27
 go_wp2
 go_loopw [4,5] (fun v i wr=>∃ (k:Nat) (out:List Int) (a:Option Nat) (c:Nat),k≤n∧out.length≤k∧i=.int .i64 k∧v=slv a out.length c∧Hid (setGo out (xs.drop k)=setF xs)∧St w.heap.size w wr (star (sli 3 a c out) emp)) (fun _ i _=>n-(intOf i).toNat)
 case atStart=>exact⟨0,[],none,0,Nat.zero_le _,Nat.le_refl _,rfl,rfl,rfl,⟨(St.start w).below,(St.start w).base,(St.start w).sat.sl_nil _ _⟩⟩
 case round =>
  obtain⟨k,out,a,c,hk,ho,rfl,rfl,HX,hst⟩:=hrel
  obtain⟨wo,rfl⟩:∃ wo:World,wo=wr:=⟨_,rfl⟩
  by_cases hlt:k<n
  ·obtain⟨b,o,rfl,hc⟩:=(hr.grow hst.below).cells (by omega)
   have hck:=hc k hlt
   have hrw:=hr.grow hst.below
   clear hc
   obtain⟨x,hx⟩:∃ x,gi xs k=x:=⟨_,rfl⟩
   have HXX:=Lib.hid hx
   rw[hx] at hck
   clear hx
   obtain⟨L,hL⟩:∃ L,out.length=L:=⟨_,rfl⟩
   have HL:=Lib.hid hL
   rw[hL] at ho ⊢
   clear hL
   cases hok:okLit x
   ·have HB:=Lib.hid (setGo_bad (out:=out) (xs:=xs) (k:=k) (by have:=hl.out;omega) (by rw[HXX.out];exact hok))
    have hfin:SetPost w.heap.size w xs (.returned (.tuple #[.slice none 0 0,.bool false])) wo:=by
     refine⟨fun s hs=>?_,fun _=>⟨rfl,hst.dropl⟩⟩
     rw[←HX.out,HB.out] at hs
     cases hs
    have HF:=Lib.hid hfin
    have hok':x=0∨2147483647<x∨x< -2147483647:=by simp[okLit] at hok;omega
    clear hok hfin
    unfold slv
    by_cases h1:x=0
    ·have hd1:(x==0)=true:=by simpa using h1
     clear hok' h1
     go_wp2
     go_ret2
     exact HF.out
    ·have hd1:(x==0)=false:=by simpa using h1
     by_cases h2:2147483647<x
     ·have hd2:decide (2147483647<x)=true:=by simpa using h2
      clear hok' h1
      go_wp2
      go_ret2
      exact HF.out
     ·have hd2:decide (2147483647<x)=false:=by simpa using h2
      have hd3:decide (x< -2147483647)=true:=by simp;omega
      clear hok' h1
      go_wp2
      go_ret2
      exact HF.out
   ·have HS:=Lib.hid (setGo_ok (out:=out) (xs:=xs) (k:=k) (by have:=hl.out;omega) (by rw[HXX.out];exact hok))
    have hok':x≠0∧-2147483647≤x∧x≤2147483647:=by simpa [okLit] using hok
    obtain⟨h1,h2,h3⟩:=hok'
    have hd1:(x==0)=false:=by simpa using h1
    have hd2:decide (2147483647<x)=false:=by simp;omega
    have hd3:decide (x< -2147483647)=false:=by simp;omega
    obtain⟨_,hLc,_,hnone,_⟩:=hst.sat.sl_facts
    have HN:=Lib.hid hnone
    clear h1 hnone hok
    unfold slv
    go_wp2
    go_loopw [6] (fun q w2=>∃ j:Nat,j≤L∧q=.int .i64 j∧Hid (∀ i,i<j→gi out i<x)∧Drawn wo w2) (fun q _=>L-(intOf q).toNat)
    case atStart=>exact⟨0,Nat.zero_le _,rfl,(fun i hi=>by omega:∀ i,i<0→gi out i<x),Drawn.refl _⟩
    case round =>
     obtain⟨j,hj,rfl,HA,hD⟩:=hrel
     have hst2:=hst.drawn hD
     have hck2:wr.cell? ⟨b,o+k,none⟩=some (.int .i64 x):=by rw[←hck];simp[World.cell?,hD.heap]
     by_cases hjl:j<L
     ·have hd4:decide ((j:Int)<(L:Int))=true:=by simp;omega
      have h0:(0:Int)≤(j:Int):=by omega
      have h0':(j:Int)<(L:Int):=by omega
      have hk0:(0:Int)≤(k:Int):=by omega
      have hk0':(k:Int)<(n:Int):=by omega
      cases a with
      | none=>have:=(HN.out rfl).1;have:=HL.out;omega
      | some ba =>
      have hcj:wr.cell? ⟨ba,j,none⟩=some (.int .i64 (gi out j)):=by
       rw[St.sl_cell (h:=hst2) j (by have:=HL.out;simp;omega),ints_get _ _ (by have:=HL.out;omega)]
      cases hy:decide (gi out j<x)
      ·have hy':x≤gi out j:=by simpa using hy
       cases he:gi out j==x
       ·go_wp2
        go_quiet (fail)
        go_wp2
        go_quiet (fail)
        go_wp2_with (at_builtin;refine wpList_append_int rfl _ _ 27 3 rfl Tryz.underlying27 Tryz.infoInt (hst2.drewN _) L HL.out rfl 0 rfl (by omega) ?_;intro b' c' w' h2)
        have HI:=Lib.hid (show ins x out=out.take j++x :: out.drop j from ins_at (by have:=HL.out;omega) HA.out (fun h=>by have h9:gi out j≠x:=(by simpa using he);omega))
        have hst4:St w.heap.size w w' (star (sli 3 (some b') c' (out.take L++0 :: out.drop L)) emp):=by
         have:=shift_start out 0
         rw[HL.out] at this
         rw[←this];exact h2
        clear h2
        go_loopw [7] (fun q w2=>∃ (jj:Nat) (z:Int),j≤jj∧jj≤L∧q=.int .i64 jj∧St w.heap.size w w2 (star (sli 3 (some b') c' (out.take jj++z :: out.drop jj)) emp)) (fun q _=>(intOf q).toNat-j)
        case atStart=>exact⟨L,0,by omega,Nat.le_refl _,rfl,hst4⟩
        case round =>
         obtain⟨jj,z,hj1,hj2,rfl,hst5⟩:=hrel
         have hlen:(out.take jj++z :: out.drop jj).length=L+1:=by have:=HL.out;simp;omega
         have HLEN:=Lib.hid hlen
         clear hlen
         by_cases hjj:j<jj
         ·obtain⟨i,rfl⟩:∃ i,jj=i+1:=⟨jj-1,by omega⟩
          have hr1:wr.cell? ⟨b',i,none⟩=some (.int .i64 (gi out i)):=by
           rw[St.sl_cell (h:=hst5) i (by rw[ints_length];have:=HLEN.out;omega),ints_get _ _ (by have:=HLEN.out;omega)]
           have:=shift_read (out:=out) (j:=i+1) z (by omega) (by have:=HL.out;omega)
           simp only[Nat.add_sub_cancel] at this
           rw[this]
          have hr2:wr.cell? ⟨b',i+1,none⟩=some (.int .i64 (gi (out.take (i+1)++z :: out.drop (i+1)) (i+1))):=by
           rw[St.sl_cell (h:=hst5) (i+1) (by rw[ints_length];have:=HLEN.out;omega),ints_get _ _ (by have:=HLEN.out;omega)]
          have hf2:wr.frozen? ⟨b',i+1,none⟩=false:=St.sl_free (h:=hst5) (i+1)
          go_wp2
          go_roundw
          case rel =>
           refine⟨i,gi out i,by omega,by omega,by go_num,?_⟩
           have h6:=St.sl_set hst5 (i+1) (.int .i64 (gi out i)) (by rw[ints_length];have:=HLEN.out;omega)
           have h7:=shift_step (out:=out) (j:=i+1) z (by omega) (by have:=HL.out;omega)
           simp only[Nat.add_sub_cancel] at h7
           rw[ints_set,h7] at h6
           rw[show sli 3 (some b') c' (out.take i++gi out i :: out.drop i)=sl (some b') (out.take (i+1)++z :: out.drop (i+1)).length c' 3 1 (ints (out.take i++gi out i :: out.drop i)) from by unfold sli;rw[HLEN.out];congr 1;have:=HL.out;simp;omega]
           exact h6
          case measure=>simp[intOf];omega
         ·obtain rfl:j=jj:=by omega
          have hr1:wr.cell? ⟨b,o+k,none⟩=some (.int .i64 x):=by rw[(hr.grow hst5.below).cell hlt,HXX.out]
          have hr2:wr.cell? ⟨b',j,none⟩=some (.int .i64 (gi (out.take j++z :: out.drop j) j)):=by
           rw[St.sl_cell (h:=hst5) j (by rw[ints_length];have:=HLEN.out;omega),ints_get _ _ (by have:=HLEN.out;omega)]
          have hf2:wr.frozen? ⟨b',j,none⟩=false:=St.sl_free (h:=hst5) j
          go_wp2
          go_roundw
          case rel =>
           have hi:(ins x out).length=L+1:=by rw[HI.out];have:=HL.out;simp;omega
           refine⟨k+1,ins x out,some b',c',by omega,by omega,by go_num,by rw[hi];rfl,?_,?_⟩
           ·have:=HS.out
            rw[HXX.out] at this
            exact (this.symm.trans HX.out:_=_)
           ·have h6:=St.sl_set hst5 j (.int .i64 x) (by rw[ints_length];have:=HLEN.out;omega)
            rw[ints_set,shift_end z x (by have:=HL.out;omega),←HI.out] at h6
            rw[show sli 3 (some b') c' (ins x out)=sl (some b') (out.take j++z :: out.drop j).length c' 3 1 (ints (ins x out)) from by unfold sli;rw[HLEN.out,hi]]
            exact h6
          case measure=>simp[intOf];omega
       ·have HT:=Lib.hid (ins_there (x:=x) (out:=out) (j:=j) (by have:=HL.out;omega) HA.out (by simpa using he))
        go_wp2
        go_quiet (fail)
        go_wp2
        go_quiet (fail)
        go_wp2
        go_roundw
        case rel =>
         refine⟨k+1,out,some ba,c,by omega,by have:=HL.out;omega,by go_num,by rw[HL.out],?_,hst2.drewN _⟩
         have:=HS.out
         rw[HXX.out,HT.out] at this
         exact (this.symm.trans HX.out:_=_)
        case measure=>simp[intOf];omega
      ·go_wp2
       go_quiet (fail)
       go_wp2
       go_roundw
       case rel=>exact⟨j+1,by omega,by go_num,(fun i hi=>by
        rcases Nat.lt_succ_iff_lt_or_eq.1 hi with h | h
        ·exact HA.out i h
        ·subst h;simpa using hy:∀ i,i<j+1→gi out i<x),hD.step _⟩
       case measure=>simp[intOf];omega
     ·obtain rfl:j=L:=by omega
      have hd4:decide ((j:Int)<(j:Int))=false:=by simp
      go_wp2
      go_quiet (fail)
      go_wp2
      go_quiet (fail)
      go_wp2_with (at_builtin;refine wpList_append_int rfl _ _ 27 3 rfl Tryz.underlying27 Tryz.infoInt (hst2.drewN _) j HL.out rfl 0 rfl (by omega) ?_;intro b' c' w' h2)
      have HI:=Lib.hid (show ins x out=out.take j++x :: out.drop j from ins_at (by have:=HL.out;omega) HA.out (fun h=>by have:=HL.out;omega))
      have hst4:St w.heap.size w w' (star (sli 3 (some b') c' (out.take j++0 :: out.drop j)) emp):=by
       have:=shift_start out 0
       rw[HL.out] at this
       rw[←this];exact h2
      clear h2
      go_loopw [7] (fun q w2=>∃ (jj:Nat) (z:Int),j≤jj∧jj≤j∧q=.int .i64 jj∧St w.heap.size w w2 (star (sli 3 (some b') c' (out.take jj++z :: out.drop jj)) emp)) (fun q _=>(intOf q).toNat-j)
      case atStart=>exact⟨j,0,Nat.le_refl _,Nat.le_refl _,rfl,hst4⟩
      case round =>
       obtain⟨jj,z,hj1,hj2,rfl,hst5⟩:=hrel
       have hlen:(out.take jj++z :: out.drop jj).length=j+1:=by have:=HL.out;simp;omega
       have HLEN:=Lib.hid hlen
       clear hlen
       by_cases hjj:j<jj
       ·exact absurd hjj (by omega)
       ·obtain rfl:j=jj:=by omega
        have hr1:wr.cell? ⟨b,o+k,none⟩=some (.int .i64 x):=by rw[(hr.grow hst5.below).cell hlt,HXX.out]
        have hr2:wr.cell? ⟨b',j,none⟩=some (.int .i64 (gi (out.take j++z :: out.drop j) j)):=by
         rw[St.sl_cell (h:=hst5) j (by rw[ints_length];have:=HLEN.out;omega),ints_get _ _ (by have:=HLEN.out;omega)]
        have hf2:wr.frozen? ⟨b',j,none⟩=false:=St.sl_free (h:=hst5) j
        go_wp2
        go_roundw
        case rel =>
         have hi:(ins x out).length=j+1:=by rw[HI.out];have:=HL.out;simp;omega
         refine⟨k+1,ins x out,some b',c',by omega,by omega,by go_num,by rw[hi];rfl,?_,?_⟩
         ·have:=HS.out
          rw[HXX.out] at this
          exact (this.symm.trans HX.out:_=_)
         ·have h6:=St.sl_set hst5 j (.int .i64 x) (by rw[ints_length];have:=HLEN.out;omega)
          rw[ints_set,shift_end z x (by have:=HL.out;omega),←HI.out] at h6
          rw[show sli 3 (some b') c' (ins x out)=sl (some b') (out.take j++z :: out.drop j).length c' 3 1 (ints (ins x out)) from by unfold sli;rw[HLEN.out,hi]]
          exact h6
        case measure=>simp[intOf];omega
  ·have hd1:decide ((k:Int)<(n:Int))=false:=by simp;omega
   go_wp2
   go_ret2
   refine⟨fun s hs=>?_,fun hs=>?_⟩
   ·rw[←HX.out,setGo_end (by have:=hl.out;omega)] at hs
    obtain rfl:out=s:=by simpa using hs
    exact⟨a,c,rfl,by simpa [star_emp] using hst⟩
   ·rw[←HX.out,setGo_end (by have:=hl.out;omega)] at hs
    cases hs
end Go.Proofs.YthbbmdnfkkffjaaGreat

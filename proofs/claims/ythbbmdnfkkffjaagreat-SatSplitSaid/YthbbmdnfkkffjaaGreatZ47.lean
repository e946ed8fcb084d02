/-
  Parts of the proof, joined by program: RDer2, Byte3.
-/
import Derived.Test.YthbbmdnfkkffjaaGreatZ46
import Derived.Test.YthbbmdnfkkffjaaGreatZ42
namespace Go.Proofs.YthbbmdnfkkffjaaGreat
open Go.RowKit Go.Proofs.PlaitSep Go.Proofs.PlaitPure
theorem btr {w0 w w':World} (h:Below w0.heap.size w0 w) (k:Below w.heap.size w w'):Below w0.heap.size w0 w':=h.trans (k.mono h.size)
theorem clauseF_neg {G D:List (List Int)} {p:Int} (h:p<0):clauseF G D p=none:=by unfold clauseF;rw[if_pos (.inl h)]
theorem clauseF_big {G D:List (List Int)} {p:Int} (h:(G.length:Int)+D.length≤p):clauseF G D p=none:=by unfold clauseF;rw[if_pos (.inr h)]
theorem clauseF_given {G D:List (List Int)} {Q:Nat} (h:Q<G.length):clauseF G D Q=setF (gl G Q):=by
 unfold clauseF
 rw[if_neg (by omega),if_pos (by omega),Int.toNat_natCast]
theorem clauseF_made {G D:List (List Int)} {p:Int} {t:Nat} (h:p-G.length=t) (ht:t<D.length):clauseF G D p=some (gl D t):=by
 unfold clauseF
 rw[if_neg (by omega),if_neg (by omega),h,Int.toNat_natCast]
def AtStep (G D:List (List Int)) (s cur:List Int) (j:Nat):Prop:=(j=0∧cur=[])∨(0<j∧IsSet cur∧Lits G cur∧stepF G D s=foldR G D cur (s.drop j))
theorem AtStep.nix {G D:List (List Int)} {s cur:List Int} {j:Nat} (h:AtStep G D s cur j) (hj:j<s.length) (hc:clauseF G D (gi s j)=none):stepF G D s=none:=by
 have hd:s.drop j=gi s j :: s.drop (j+1):=by rw[List.drop_eq_getElem_cons hj,gi_eq s j hj]
 rcases h with ⟨rfl,_⟩ | ⟨_,_,_,h⟩
 ·rw[List.drop_zero] at hd
  rw[hd,stepF,hc]
 ·rw[h,hd,foldR,hc]
theorem AtStep.first {G D:List (List Int)} {s cur d:List Int} (_h:AtStep G D s cur 0) (hj:0<s.length) (hc:clauseF G D (gi s 0)=some d) (hs:IsSet d) (hl:Lits G d):AtStep G D s d 1:=by
 have hd:s.drop 0=gi s 0 :: s.drop 1:=by rw[List.drop_eq_getElem_cons hj,gi_eq s 0 hj]
 rw[List.drop_zero] at hd
 refine .inr ⟨by omega,hs,hl,?_⟩
 have h2:stepF G D (gi s 0 :: s.drop 1)=foldR G D d (s.drop 1):=by rw[stepF,hc]
 rw[←hd] at h2
 exact h2
theorem AtStep.next {G D:List (List Int)} {s cur d e:List Int} {j:Nat} (h:AtStep G D s cur j) (hj0:0<j) (hj:j<s.length) (hc:clauseF G D (gi s j)=some d) (he:resF cur d=some e) (hs:IsSet e) (hl:Lits G e):AtStep G D s e (j+1):=by
 have hd:s.drop j=gi s j :: s.drop (j+1):=by rw[List.drop_eq_getElem_cons hj,gi_eq s j hj]
 rcases h with ⟨rfl,_⟩ | ⟨_,_,_,h⟩
 ·omega
 ·exact .inr ⟨by omega,hs,hl,by rw[h,hd,foldR,hc];simp only[he]⟩
theorem AtStep.stop {G D:List (List Int)} {s cur d:List Int} {j:Nat} (h:AtStep G D s cur j) (hj0:0<j) (hj:j<s.length) (hc:clauseF G D (gi s j)=some d) (he:resF cur d=none):stepF G D s=none:=by
 have hd:s.drop j=gi s j :: s.drop (j+1):=by rw[List.drop_eq_getElem_cons hj,gi_eq s j hj]
 rcases h with ⟨rfl,_⟩ | ⟨_,_,_,h⟩
 ·omega
 ·rw[h,hd,foldR,hc];simp only[he]
theorem dervPost_bad {w w':World} {r:Option (List (List Int))} (hb:Below w.heap.size w w') (h:r=none):DervPost w r (.returned (.tuple #[.slice none 0 0,.int .i64 121])) w' :=
 ⟨hb,fun D hD=>(by rw[h] at hD;cases hD),fun _=>rfl⟩
set_option maxRecDepth 100000 in
set_option maxHeartbeats 4000000 in
theorem rDerive_any (AG:Option Addr) (nG cG:Nat) (G:List (List Int)) (AL:Option Addr) (nL cL:Nat) (l:List (List Int)) (w:World) (hG:Rd2 w AG nG G) (hL:Rd2 w AL nL l) (hnG:nG≤100000) (hnL:nL≤100000)
  (hsum:G.flatten.length≤100000) (hLs:∀ j,j<nL→(gl l j).length≤100000) :
  Calls Tryz.prog 58 #[.slice AG nG cG,.slice AL nL cL] w (DervPost w (derGo G [] l)):=by
 have HG:=Lib.hid hG
 have HL:=Lib.hid hL
 have HGL:=Lib.hid hG.len
 have HLL:=Lib.hid hL.len
 have HGS:=Lib.hid (show ∀ g∈G,g.length≤100000 from fun g hg=>Nat.le_trans (mem_flatten_len hg) hsum)
 have HSUM:=Lib.hid hsum
 have HLS:=Lib.hid hLs
 clear hG hL hsum hLs
 go_enter Tryz.func58,Tryz.ntmps58
 go_wp2
 go_loopw [6,7] (fun v6 v7 wr=>∃ (i:Nat) (a:Option Nat) (c:Nat) (V:List Value) (D:List (List Int)),i≤nL∧v7=.int .i64 i∧v6=.slice (a.map fun b=>⟨b,0,none⟩) i c∧Hid (D.length=i) ∧
  Hid (St w.heap.size w wr (star (sl a i c 27 1 V) emp))∧Hid (RowsV wr V D)∧Hid (NoI wr a)∧Hid (GoodD G D)∧Hid (derGo G [] l=derGo G D (l.drop i))) (fun _ v7 _=>nL-(intOf v7).toNat)
 case atStart=>exact⟨0,none,0,[],[],Nat.zero_le _,rfl,rfl,(rfl:([]:List (List Int)).length=0),(by rw[sl_none,star_emp];exact St.start w:St w.heap.size w w (star (sl none 0 0 27 1 []) emp)),RowsV.nil _,(fun b hb=>(by cases hb):NoI _ none),goodD_nil G,(rfl:derGo G [] l=derGo G [] (l.drop 0))⟩
 case round =>
  obtain⟨i,a,c,V,D,hi,rfl,rfl,HDL,HST,HRV,HNI,HGD,HGO⟩:=hrel
  by_cases hin:i<nL
  ·obtain⟨ab,ao,hA,hc⟩:=HL.out.cells (by omega)
   subst hA
   obtain⟨Aj,cj,d0,hrj⟩:=hc i hin
   have d1:=(HST.out.below.cell (World.block_lt_of_cell? w _ d0)).trans d0
   have hsm:=HLS.out i hin
   have hil:i<l.length:=by rw[HLL.out];exact hin
   have hdrop:l.drop i=gl l i :: l.drop (i+1):=by rw[List.drop_eq_getElem_cons hil,gl_eq l i hil]
   obtain⟨s,hs⟩:∃ s,gl l i=s:=⟨_,rfl⟩
   obtain⟨ln,hln⟩:∃ ln,s.length=ln:=⟨_,rfl⟩
   rw[hs,hln] at d1 hrj hsm
   have hgo:derGo G [] l=match stepF G D s with
     | none=>none
     | some c=>derGo G (D++[c]) (l.drop (i+1)):=by rw[HGO.out,hdrop,hs,derGo_cons];rfl
   have HGO2:=Lib.hid hgo
   have HRJ:=Lib.hid hrj
   have HLN:=Lib.hid hln
   have HD1:=Lib.hid (show ∀ V,Below wr.heap.size wr V→V.cell? ⟨ab,ao+i,none⟩=some (.slice Aj ln cj) from fun V hV=>(hV.cell (World.block_lt_of_cell? wr _ d1)).trans d1)
   obtain⟨AA,hAA⟩:∃ AA:Option Addr,(a.map fun b=>⟨b,0,none⟩)=AA:=⟨_,rfl⟩
   rw[hAA]
   have HAA:=Lib.hid hAA
   have i0:(0:Int)≤(i:Int):=by omega
   have i1:(i:Int)<(nL:Int):=by omega
   clear hc d0 hrj hs hln hdrop hil hgo hAA HGO
   by_cases hl0:ln=0
   ·subst hl0
    have hnil:s=[]:=List.eq_nil_of_length_eq_zero HLN.out
    have HN:=Lib.hid (show derGo G [] l=none by rw[HGO2.out,hnil];rfl)
    clear hnil
    go_wp2
    go_ret2
    exact dervPost_bad HST.out.below HN.out
   have e0:((ln:Int)==0)=false:=by simp;omega
   obtain⟨wo,hwo⟩:∃ wo:World,wo=wr:=⟨_,rfl⟩
   have HWO:=Lib.hid (show Below wo.heap.size wo wr by rw[hwo];exact Below.refl _ _)
   rw[←hwo] at HD1 HST HRV HNI
   clear hwo
   go_wp2
   go_loopw [8,9] (fun v8 v9 wr=>∃ (j cl k:Nat) (A1:Option Addr) (cur:List Int),j≤ln∧cl≤100000∧v9=.int .i64 j∧v8=.slice A1 cl k∧Hid (Below wo.heap.size wo wr)∧Hid (Rd wr A1 cl cur)∧Hid (AtStep G D s cur j)) (fun _ v9 _=>ln-(intOf v9).toNat)
   case atStart=>exact⟨0,0,0,none,[],Nat.zero_le _,Nat.zero_le _,rfl,rfl,HWO.out,(⟨rfl,Nat.zero_le _,fun h=>absurd h (Nat.lt_irrefl 0)⟩:Rd _ none 0 []),(.inl ⟨rfl,rfl⟩:AtStep G D s [] 0)⟩
   case round =>
    obtain⟨j,cl,k,A1,cur,hj,hcl,rfl,rfl,HB,HRC,HAT⟩:=hrel
    have d2:=HD1.out _ HB.out
    by_cases hjn:j<ln
    ·obtain⟨bx,ox,hA,hcx⟩:=(HRJ.out.grow (HST.out.below.trans (HB.out.mono HST.out.below.size))).cells (by omega)
     subst hA
     have d3:=hcx j hjn
     have hjs:j<s.length:=by rw[HLN.out];exact hjn
     obtain⟨p,hp⟩:∃ p,gi s j=p:=⟨_,rfl⟩
     rw[hp] at d3
     have HP:=Lib.hid hp
     have HJS:=Lib.hid hjs
     have j0:(0:Int)≤(j:Int):=by omega
     have j1:(j:Int)<(ln:Int):=by omega
     clear hcx hjs hp
     by_cases hneg:p<0
     ·have e1:decide (p<0)=true:=by simpa using hneg
      have HN:=Lib.hid (show derGo G [] l=none by rw[HGO2.out,HAT.out.nix HJS.out (by rw[HP.out];exact clauseF_neg hneg)])
      go_wp2
      go_ret2
      exact dervPost_bad (HST.out.below.trans (HB.out.mono HST.out.below.size)) HN.out
     have e1:decide (p<0)=false:=by simpa using hneg
     by_cases hbig:(nG:Int)+i≤p
     ·have e2:decide ((nG:Int)+(i:Int)≤p)=true:=by simpa using hbig
      have HN:=Lib.hid (show derGo G [] l=none by rw[HGO2.out,HAT.out.nix HJS.out (by rw[HP.out];exact clauseF_big (by rw[HGL.out,HDL.out];exact hbig))])
      go_wp2
      go_ret2
      exact dervPost_bad (HST.out.below.trans (HB.out.mono HST.out.below.size)) HN.out
     have e2:decide ((nG:Int)+(i:Int)≤p)=false:=by simpa using hbig
     obtain⟨Q,rfl⟩:∃ Q:Nat,p=Q:=⟨p.toNat,by omega⟩
     by_cases hgv:Q<nG
     ·have e3:decide ((Q:Int)<(nG:Int))=true:=by simp;omega
      have hcf:clauseF G D (gi s j)=setF (gl G Q):=by rw[HP.out];exact clauseF_given (by rw[HGL.out];exact hgv)
      obtain⟨bg,og,hA,hcell⟩:=(HG.out.grow (HST.out.below.trans (HB.out.mono HST.out.below.size))).cells (by omega)
      subst hA
      obtain⟨Ag,cg,d4,hrg⟩:=hcell Q hgv
      have hgm:(gl G Q).length≤100000:=HGS.out _ (by rw[gl_eq G Q (by rw[HGL.out];exact hgv)];exact List.getElem_mem _)
      obtain⟨g,hg⟩:∃ g,gl G Q=g:=⟨_,rfl⟩
      obtain⟨gn,hgn⟩:∃ gn,g.length=gn:=⟨_,rfl⟩
      rw[hg,hgn] at d4 hrg hgm
      rw[hg] at hcf
      have HCF:=Lib.hid hcf
      have HRG:=Lib.hid hrg
      have q0:(0:Int)≤(Q:Int):=by omega
      have q1:(Q:Int)<(nG:Int):=by omega
      clear hcell hg hgn hcf hrg
      go_wp2_with fail
      refine (rset_any Ag gn cg g wr HRG.out (by omega)).mono ?_
      rintro e w3 ⟨hgood,hbad⟩
      cases hset:setF g with
      | none =>
       obtain⟨rfl,h3⟩:=hbad hset
       have HB3:=Lib.hid (btr HB.out h3.below)
       have HN:=Lib.hid (show derGo G [] l=none by rw[HGO2.out,HAT.out.nix HJS.out (HCF.out.trans hset)])
       clear hgood hbad hset h3
       go_wp2
       go_ret2
       exact dervPost_bad (HST.out.below.trans (HB3.out.mono HST.out.below.size)) HN.out
      | some d =>
       obtain⟨a3,k3,rfl,h3⟩:=hgood d hset
       have CLD:=Lib.hid (HCF.out.trans hset)
       have HSD:=Lib.hid (setF_spec hset).1
       have HLT:=Lib.hid (clauseF_lits (fun d hd=>(HGD.out d hd).2) CLD.out)
       have hdlen:d.length≤100000:=Nat.le_trans (nodup_len HSD.out.nodup HLT.out) HSUM.out
       have HB3:=Lib.hid (btr HB.out h3.below)
       have HRC3:=Lib.hid (HRC.out.grow h3.below)
       have hrd3:=St.rd (h3.conseq (star_emp _).symm) (by omega)
       obtain⟨A3,hA3⟩:∃ A3:Option Addr,(a3.map fun b=>⟨b,0,none⟩)=A3:=⟨_,rfl⟩
       unfold slv
       obtain⟨dl,hdl⟩:∃ dl,d.length=dl:=⟨_,rfl⟩
       rw[hA3,hdl] at hrd3
       rw[hA3,hdl]
       rw[hdl] at hdlen
       have HRD3:=Lib.hid hrd3
       clear hgood hbad hset h3 hrd3 hA3 hdl d4
       by_cases hj0:j=0
       ·subst hj0
        rw[Nat.add_zero] at d3
        have HAT2:=Lib.hid (HAT.out.first HJS.out CLD.out HSD.out HLT.out)
        go_wp2
        go_roundw
        case rel=>exact⟨1,dl,k3,A3,d,by omega,by omega,by go_num,rfl,HB3.out,HRD3.out,HAT2.out⟩
        case measure=>simp[intOf];omega
       ·have e5:((j:Int)==0)=false:=by simp;omega
        have hcs:IsSet cur∧Lits G cur:=by
         rcases HAT.out with ⟨h,_⟩ | ⟨_,h1,h2,_⟩
         ·exact absurd h hj0
         ·exact⟨h1,h2⟩
        have HCS:=Lib.hid hcs
        clear hcs
        go_wp2_with fail
        refine (rresolve_any A1 cl k cur A3 dl k3 d w3 HRC3.out HRD3.out HCS.out.1 HSD.out (by omega) (by omega)).mono ?_
        rintro e w5 ⟨hb5,hgood,hbad⟩
        have HB5:=Lib.hid (btr HB3.out hb5)
        cases hres:resF cur d with
        | none =>
         obtain rfl:=hbad hres
         have HN:=Lib.hid (show derGo G [] l=none by rw[HGO2.out,HAT.out.stop (by omega) HJS.out CLD.out hres])
         clear hb5 hgood hbad hres
         go_wp2
         go_ret2
         exact dervPost_bad (HST.out.below.trans (HB5.out.mono HST.out.below.size)) HN.out
        | some e =>
         obtain⟨A6,k6,rfl,hr6⟩:=hgood e hres
         have hes:=resF_set hres
         have hel:=resF_lits HCS.out.2 HLT.out hres
         have helen:e.length≤100000:=Nat.le_trans (nodup_len hes.nodup hel) HSUM.out
         have HAT3:=Lib.hid (HAT.out.next (by omega) HJS.out CLD.out hres hes hel)
         have HR6:=Lib.hid hr6
         obtain⟨el,hell⟩:∃ el,e.length=el:=⟨_,rfl⟩
         have HR7:=Lib.hid (show Rd w5 A6 el e by rw[←hell];exact HR6.out)
         rw[hell] at helen ⊢
         clear hb5 hgood hbad hres hes hel hr6 hell HR6
         go_wp2
         go_roundw
         case rel=>exact⟨j+1,el,k6,A6,e,by omega,by omega,by go_num,rfl,HB5.out,HR7.out,HAT3.out⟩
         case measure=>simp[intOf];omega
     ·have e3:decide ((Q:Int)<(nG:Int))=false:=by simp;omega
      obtain⟨t,ht⟩:∃ t:Nat,(Q:Int)-(nG:Int)=(t:Int):=⟨Q-nG,by omega⟩
      have hti:t<i:=by omega
      have CLD0:clauseF G D (gi s j)=some (gl D t):=by rw[HP.out];exact clauseF_made (by rw[HGL.out];exact ht) (by rw[HDL.out];exact hti)
      obtain⟨b,hab⟩:∃ b,a=some b:=by
       cases a with
       | some b=>exact⟨b,rfl⟩
       | none=>have:=(HST.out.sat.sl_facts.2.2.2.1 rfl).1;omega
      have haa:=HAA.out
      rw[hab] at haa
      simp only[Option.map_some] at haa
      subst haa hab
      obtain⟨A3,k3,hv,hr3⟩:=HRV.out.2 t (by rw[HDL.out];exact hti)
      have d4:wo.cell? ⟨b,t,none⟩=some (.slice A3 (gl D t).length k3):=(HST.out.sl_cell t (by rw[HRV.out.1,HDL.out];exact hti)).trans hv
      have d5:=(HB.out.cell (World.block_lt_of_cell? wo _ d4)).trans d4
      have hsd:IsSet (gl D t)∧Lits G (gl D t):=HGD.out _ (by rw[gl_eq D t (by rw[HDL.out];exact hti)];exact List.getElem_mem _)
      obtain⟨d,hd⟩:∃ d,gl D t=d:=⟨_,rfl⟩
      obtain⟨dl,hdl⟩:∃ dl,d.length=dl:=⟨_,rfl⟩
      rw[hd,hdl] at d5 hr3
      rw[hd] at CLD0 hsd
      have CLD:=Lib.hid CLD0
      have HSD:=Lib.hid hsd.1
      have HLT:=Lib.hid hsd.2
      have hdlen:d.length≤100000:=Nat.le_trans (nodup_len HSD.out.nodup HLT.out) HSUM.out
      rw[hdl] at hdlen
      have HRD3:=Lib.hid (hr3.grow HB.out)
      have HB3:=HB
      have HRC3:=HRC
      have t0:(0:Int)≤(t:Int):=by omega
      have t1:(t:Int)<(i:Int):=by omega
      clear hv hr3 d4 hsd hd hdl CLD0
      by_cases hj0:j=0
      ·subst hj0
       rw[Nat.add_zero] at d3
       have HAT2:=Lib.hid (HAT.out.first HJS.out CLD.out HSD.out HLT.out)
       go_wp2
       go_roundw
       case rel=>exact⟨1,dl,k3,A3,d,by omega,by omega,by go_num,rfl,HB3.out,HRD3.out,HAT2.out⟩
       case measure=>simp[intOf];omega
      ·have e5:((j:Int)==0)=false:=by simp;omega
       have hcs:IsSet cur∧Lits G cur:=by
        rcases HAT.out with ⟨h,_⟩ | ⟨_,h1,h2,_⟩
        ·exact absurd h hj0
        ·exact⟨h1,h2⟩
       have HCS:=Lib.hid hcs
       clear hcs
       go_wp2_with fail
       refine (rresolve_any A1 cl k cur A3 dl k3 d wr HRC3.out HRD3.out HCS.out.1 HSD.out (by omega) (by omega)).mono ?_
       rintro e w5 ⟨hb5,hgood,hbad⟩
       have HB5:=Lib.hid (btr HB3.out hb5)
       cases hres:resF cur d with
       | none =>
        obtain rfl:=hbad hres
        have HN:=Lib.hid (show derGo G [] l=none by rw[HGO2.out,HAT.out.stop (by omega) HJS.out CLD.out hres])
        clear hb5 hgood hbad hres
        go_wp2
        go_ret2
        exact dervPost_bad (HST.out.below.trans (HB5.out.mono HST.out.below.size)) HN.out
       | some e =>
        obtain⟨A6,k6,rfl,hr6⟩:=hgood e hres
        have hes:=resF_set hres
        have hel:=resF_lits HCS.out.2 HLT.out hres
        have helen:e.length≤100000:=Nat.le_trans (nodup_len hes.nodup hel) HSUM.out
        have HAT3:=Lib.hid (HAT.out.next (by omega) HJS.out CLD.out hres hes hel)
        have HR6:=Lib.hid hr6
        obtain⟨el,hell⟩:∃ el,e.length=el:=⟨_,rfl⟩
        have HR7:=Lib.hid (show Rd w5 A6 el e by rw[←hell];exact HR6.out)
        rw[hell] at helen ⊢
        clear hb5 hgood hbad hres hes hel hr6 hell HR6
        go_wp2
        go_roundw
        case rel=>exact⟨j+1,el,k6,A6,e,by omega,by omega,by go_num,rfl,HB5.out,HR7.out,HAT3.out⟩
        case measure=>simp[intOf];omega
    ·obtain rfl:j=ln:=by omega
     have hcs:stepF G D s=some cur:=by
      rcases HAT.out with ⟨h,_⟩ | ⟨_,_,_,h⟩
      ·exact absurd h hl0
      ·rw[h,List.drop_of_length_le (by rw[HLN.out];exact Nat.le_refl _)];rfl
     have HGD2:=Lib.hid (HGD.out.snoc hcs)
     have HNEW:=Lib.hid (show derGo G [] l=derGo G (D++[cur]) (l.drop (i+1)) by rw[HGO2.out,hcs])
     have HST2:=Lib.hid (HST.out.grow HB.out)
     have HRV2:=Lib.hid (HRV.out.grow HB.out)
     have HNI2:=Lib.hid (HNI.out.grow HST.out.sl_lt HB.out)
     have haa:=HAA.out
     subst haa
     clear hcs
     go_wp2_with (at_builtin;refine wpList_append1k rfl _ _ 37 27 (.slice none 0 0) 24 rfl Tryz.underlying37 Tryz.infoRow rfl HST2.out rfl (.slice A1 cl k) rfl rfl (by omega) (by simp only[maxLen];omega) ?_;intro b' c' w3 h3 hk3 hq3;have H3:=Lib.hid h3;have HK3:=Lib.hid hk3;have HQ3:=Lib.hid hq3;clear h3 hk3 hq3)
     have hni3:NoI w3 (some b'):=fun b0 e=>by
      cases e
      exact fun i u hu=>HQ3.out (fun u=>∀ x,u≠.int .i64 x) HRV2.out.noint (by simp) (by simp[Value.cells]) (fun b0 i u e hu=>HNI2.out b0 e i u hu) i u hu
     have hcln:cur.length=cl:=HRC.out.len
     have hrc:Rd wr A1 cur.length cur:=by rw[hcln];exact HRC.out
     have hrv3:RowsV w3 (V++[.slice A1 cl k]) (D++[cur]):=(HRV2.out.keepO HNI2.out HK3.out).snoc (hrc.keepO HNI2.out HK3.out) k cl hcln
     have HNI3:=Lib.hid hni3
     have HRV3:=Lib.hid hrv3
     clear hni3 hcln hrc hrv3
     go_wp2
     go_roundw
     case rel=>exact⟨i+1,some b',c',V++[Value.slice A1 cl k],D++[cur],by omega,by go_num,rfl,(by rw[List.length_append,HDL.out];rfl:(D++[cur]).length=i+1),H3.out,HRV3.out,HNI3.out,HGD2.out,HNEW.out⟩
     case measure=>simp[intOf];omega
  ·obtain rfl:i=nL:=by omega
   have hfin:derGo G [] l=some D:=by
    have:=HGO.out
    rwa [List.drop_of_length_le (by rw[HLL.out];exact Nat.le_refl _)] at this
   have HFIN:=Lib.hid hfin
   have hrd:=HRV.out.rd2 HST.out (by omega)
   have HRD:=Lib.hid hrd
   have hnc:=HST.out.sat.sl_facts.2.1
   clear hfin hrd
   go_wp2
   go_ret2
   refine⟨HST.out.below,fun E hE=>?_,fun hE=>(by rw[HFIN.out] at hE;cases hE)⟩
   rw[HFIN.out] at hE
   cases hE
   exact⟨_,c,by rw[HDL.out];rfl,by rw[HDL.out];exact HRD.out,by rw[HDL.out];exact hnc⟩
end Go.Proofs.YthbbmdnfkkffjaaGreat
namespace Go.Proofs.YthbbmdnfkkffjaaGreat
open Go.RowKit Go.Proofs.PlaitSep Go.Proofs.PlaitPure
end Go.Proofs.YthbbmdnfkkffjaaGreat

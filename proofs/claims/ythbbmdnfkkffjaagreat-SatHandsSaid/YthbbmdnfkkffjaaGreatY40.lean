/-
  Parts of the proof, joined by program: Der5, Set, RDer1.
-/
import Derived.Test.YthbbmdnfkkffjaaGreatY39
import Derived.Test.YthbbmdnfkkffjaaGreatY30
import Derived.Test.YthbbmdnfkkffjaaGreatY01
import Derived.Lib.Hide
set_option maxHeartbeats 8000000
set_option maxRecDepth 100000
namespace Go.Proofs.YthbbmdnfkkffjaaGreat
open Go.RowKit Go.Proofs.aC Go.Proofs.au
theorem Pn {G D:List (List Int)} {q:Int} {c:List Int} (hG:∀ g∈G,g.length≤1000000) (hD:∀ d∈D,d.length≤1000000) (h:bP G D q=some c):c.length≤1000000:=by
 unfold bP at h
 split at h
 ·cases h
 ·split at h
  ·have:=AJ h;have:=hG (gl G q.toNat) (by rw[jq G _ (by omega)];exact List.getElem_mem _);omega
  ·cases h
   exact hD _ (by rw[jq D _ (by omega)];exact List.getElem_mem _)
theorem ZG {c d e:List Int} (h:rz c d=some e):e.length≤c.length+d.length:=by
 unfold rz at h
 split at h
 ·have h1:=AJ h;unfold Ls at h1;rw[List.length_append] at h1;rename_i x _;have h2:=List.length_filter_le (fun y=>y != x) c;have h3:=List.length_filter_le (fun y=>y != -x) d;omega
 ·cases h
theorem Rd.aiC {w:World} {b o n:Nat} {xs:List Int} (h:Rd w (some ⟨b,o,none⟩) n xs):Rd w (some ⟨b,o+1,none⟩) (n-1) (xs.drop 1):=by
 have hl:=h.len;refine⟨by rw[List.length_drop];omega,by have:=h.small;omega,fun hp=>⟨b,o+1,rfl,fun j hj=>?_⟩⟩;obtain⟨b',o',e,hc⟩:=h.cells (by omega);obtain⟨rfl,rfl⟩:b=b'∧o=o':=by simpa using e
 have:=hc (j+1) (by omega);rw[show o+1+j=o+(j+1) by omega,this];simp[gi,List.getD_eq_getElem?_getD]
theorem VW (p:Nat) (AG:Option Addr) (nG cG:Nat) (AD:Option Addr) (nD cD:Nat) (G D:List (List Int)) (AS:Option Addr) (nS cS:Nat) (s:List Int) (w:World) (h:JZ w p AG nG cG AD nD cD G D) (hG:nG≤1000000) (hD:nD≤1000000) (hGs:∀ g∈G,g.length≤1000000)
  (hDs:∀ d∈D,d.length≤1000000) (hset:∀ d∈D,gD d) (hs:Rd w AS nS s) (hn:nS≤100000) (hcap:nS≤cS) :
  Calls Tryz.prog 99 #[.pointer (some ⟨p,0,none⟩),.agg #[.slice AS nS cS]] w (GL w (gy G D s)):=by
 have jW:=zH (show ∀ V q,Below w.heap.size w V→Calls Tryz.prog 110 #[.pointer (some ⟨p,0,none⟩),.int .i64 q] V (GL V (bP G D q)) from fun V q hV=>Pm p AG nG cG AD nD cD G D q V (h.grow hV) hG hD hGs);have HLEN:=zH (show ∀ q c,bP G D q=some c→c.length≤1000000∧gD c from fun q c hc=>⟨Pn hGs hDs hc,CR hset hc⟩);have HS:=zH hs;have hsl:=hs.len;have HSL:=zH hsl;have hb0:Below w.heap.size w (w.alloc (.cells #[.slice AS nS cS] 106)):=(Below.refl _ _).alloc (Nat.le_refl _) _;have HB0:=zH hb0;have RY:=zH ((St.start w).iC #[.slice AS nS cS] 106);clear h hGs hDs hset hs hsl hb0
 by_cases hn0:nS=0
 ·subst hn0;have hnil:s=[]:=List.eq_nil_of_length_eq_zero HSL.out;have hnone:gy G D s=none:=by rw[hnil,gy]
  have HN:=zH hnone;clear hnil hnone
  go_enter Tryz.func99,Tryz.ntmps99
  go_wp2
  go_ret2
  exact iT HB0.out HN.out
 obtain⟨q,r,hqr⟩:∃ q r,s=q :: r:=by
  match s,HSL.out with
  | q :: r,_=>exact⟨q,r,rfl⟩
  | [],hl=>simp at hl;omega
 have hstep:gy G D s=match bP G D q with
   | none=>none
   | some c=>jM G D c r:=by rw[hqr];rfl
 have CK:=zH hstep;obtain⟨bs,os,hA,hcell⟩:=HS.out.cells (by omega);subst hA
 have hd0:w.cell? ⟨bs,os,none⟩=some (.int .i64 q):=by
  have:=hcell 0 (by omega);rw[Nat.add_zero] at this;rw[this,hqr];rfl
 have ab4:=World.block_lt_of_cell? w _ hd0;have HD0:=zH (show ∀ V:World,Below w.heap.size w V→V.cell? ⟨bs,os,none⟩=some (.int .i64 q) from fun V hb=>(hb.cell ab4).trans hd0);have hrlen:r.length=nS-1:=by have:=HSL.out;rw[hqr] at this;simp at this;omega
 have HRL:=zH hrlen
 have aiD:∀ V,Below w.heap.size w V→Rd V (some ⟨bs,os+1,none⟩) (nS-1) r:=fun V hV=>by
  have:=Rd.aiC (HS.out.grow hV)
  rwa [hqr] at this
 have amF:=zH aiD;have n0:(0:Int)<(nS:Int):=by omega
 have e0:((nS:Int)==0)=false:=by simp;omega
 have d1:=HD0.out _ HB0.out;clear hqr hstep hcell hd0 ab4 hrlen aiD
 go_enter Tryz.func99,Tryz.ntmps99
 go_wp2_with fail
 refine (jW.out _ q HB0.out).mono ?_
 rintro e w2 ⟨hb2,hgood,hbad⟩
 have HB2:=zH (HB0.out.trans (hb2.mono (by simp)));have lU:=zH (RY.out.grow hb2);have jL:=zH hgood;have HBAD:=zH hbad
 have d2:w2.cell? ⟨w.heap.size,0,none⟩=some (.slice (some ⟨bs,os,none⟩) nS cS):=by
  rw[St.aG lU.out 0];rfl
 clear hb2 hgood hbad d1
 cases hc:bP G D q with
 | none =>
  have he:=HBAD.out hc;subst he;have HN:=zH (show gy G D s=none by rw[CK.out,hc]);clear hc
  go_wp2
  go_ret2
  exact iT HB2.out HN.out
 | some c =>
  obtain⟨A1,k1,rfl,hrd⟩:=jL.out c hc;obtain⟨aiE,adi⟩:=HLEN.out q c hc;have HF:=zH (show gy G D s=jM G D c r by rw[CK.out,hc]);have aiF:=zH hrd;have ZH:=zH adi;obtain⟨cl,hcl⟩:∃ cl,c.length=cl:=⟨_,rfl⟩;rw[hcl] at aiE ⊢;have Sb:=zH hcl;clear hc hrd adi hcl jL HBAD CK
  by_cases hn1:nS=1
  ·subst hn1;have hr0:r=[]:=List.eq_nil_of_length_eq_zero (by rw[HRL.out]);have hf:gy G D s=some c:=by rw[HF.out,hr0,jM]
   have HF2:=zH hf;clear hr0 hf
   go_wp2
   go_ret2
   refine⟨HB2.out,fun c' hc'=>?_,fun hc'=>(by rw[HF2.out] at hc';cases hc')⟩;rw[HF2.out] at hc'
   cases hc'
   exact⟨A1,k1,by rw[Sb.out];rfl,aiF.out⟩
  ·have e1:((nS:Int)==1)=false:=by simp;omega
   have hmm:=@run_makeMap Tryz.prog;have hlt2:=World.block_lt_of_cell? w2 _ d2;have ZI:=zH (show ∀ V,Below w2.heap.size w2 V→V.cell? ⟨w.heap.size,0,none⟩=some (.slice (some ⟨bs,os,none⟩) nS cS) from fun V hV=>(hV.cell hlt2).trans d2);have Ic:=zH (show ∀ V,Below w2.heap.size w2 V→Below w.heap.size w V from fun V hV=>HB2.out.trans (hV.mono lU.out.base));clear hlt2 HD0
   go_wp2
   go_loopw [41] (fun v41 wr=>∃ j:Nat,j≤cl∧v41=.int .i64 j∧Hid (St w2.heap.size w2 wr (star (ms Tryz.prog 3 3 w2.heap.size j (c.take j)) emp))) (fun v41 _=>cl-(intOf v41).toNat)
   case atStart=>exact⟨0,Nat.zero_le _,rfl,(St.afb (St.start w2):St w2.heap.size w2 _ (star (ms Tryz.prog 3 3 w2.heap.size 0 (c.take 0)) emp))⟩
   case round =>
    obtain⟨j,hj,rfl,H⟩:=hrel
    by_cases hjn:j<cl
    ·obtain⟨bc,oc,hA,hcell⟩:=(aiF.out.grow H.out.below).cells (by rw[Sb.out];omega);subst hA;have d1:=hcell j (by rw[Sb.out];exact hjn);obtain⟨x,hx⟩:∃ x,gi c j=x:=⟨_,rfl⟩;rw[hx] at d1;have VQ:gH x=true:=by rw[←hx,dh c j (by rw[Sb.out];exact hjn)];exact ZH.out.lits _ (List.getElem_mem _)
     have hwf:=Lu VQ;have htk:c.take (j+1)=c.take j++[x]:=by rw[gV c j (by rw[Sb.out];exact hjn),hx]
     have qH:=zH htk;have j0:(0:Int)≤(j:Int):=by omega
     have j1:(j:Int)<(cl:Int):=by omega
     clear hcell hx VQ htk
     go_wp2_with (refine wQ rfl _ _ _ rfl H.out Tryz.vw Tryz.underlying102 Tryz.underlying3 Tryz.underlying3 (by unfold maxLen;omega) x rfl rfl rfl hwf ?_;intro w3 h3 hg3;have H3:=zH h3;clear h3 hg3)
     go_roundw
     case rel=>exact⟨j+1,by omega,by go_num,(by rw[qH.out];exact H3.out:St w2.heap.size w2 _ (star (ms Tryz.prog 3 3 w2.heap.size (j+1) (c.take (j+1))) emp))⟩
     case measure=>simp[intOf];omega
    ·obtain rfl:j=cl:=by omega
     have hms:St w2.heap.size w2 wr (star (ms Tryz.prog 3 3 w2.heap.size j c) emp):=by
      have:=H.out
      rwa [List.take_of_length_le (by rw[Sb.out];exact Nat.le_refl _)] at this
     have d3:=ZI.out wr H.out.below;have HMS:=zH hms;have n1:(1:Int)≤(nS:Int):=by omega
     have n2:(nS:Int)≤(cS:Int):=by omega
     have hM:∃ M,nS=M+1:=⟨nS-1,by omega⟩;clear hms H
     go_wp2
     go_loopw [52] (fun v52 wr=>∃ i:Nat,i≤nS-1∧v52=.int .i64 i∧∃ (m:Nat) (cur:List Int),m≤(i+1)*1000000∧cur.length≤(i+1)*1000000∧Hid (St w2.heap.size w2 wr (star (ms Tryz.prog 3 3 w2.heap.size m cur) emp)) ∧
      Hid (gD cur)∧Hid (gy G D s=jM G D cur (r.drop i))) (fun v52 _=>(nS-1)-(intOf v52).toNat)
     case atStart=>exact⟨0,Nat.zero_le _,rfl,j,c,by omega,by rw[Sb.out];omega,HMS.out,ZH.out,(HF.out:gy G D s=jM G D c (r.drop 0))⟩
     case round =>
      obtain⟨i,hi,rfl,m,cur,hm,hcur,H,HC,MP⟩:=hrel
      by_cases hin:i<nS-1
      ·obtain⟨b9,o9,hA,hcell⟩:=(amF.out _ (Ic.out _ H.out.below)).cells (by omega);obtain⟨rfl,rfl⟩:bs=b9∧os+1=o9:=by simpa using hA
       have d1:=hcell i hin;have hil:i<r.length:=by rw[HRL.out];exact hin
       have hdrop:r.drop i=gi r i :: r.drop (i+1):=by rw[List.drop_eq_getElem_cons hil,dh r i hil]
       obtain⟨x,hx⟩:∃ x,gi r i=x:=⟨_,rfl⟩;rw[hx] at d1 hdrop;have hfr:gy G D s=jM G D cur (x :: r.drop (i+1)):=by rw[MP.out,hdrop]
       have aiG:=zH hfr;have i0:(0:Int)≤(i:Int):=by omega
       have i1:(i:Int)<((nS-1:Nat):Int):=by omega
       clear hA hcell hx hil hdrop hfr MP
       go_wp2_with fail
       refine (jW.out _ x (Ic.out _ H.out.below)).mono ?_
       rintro e w3 ⟨hb3,hgood,hbad⟩
       have aiH:=zH (H.out.grow hb3);have jL:=zH hgood;have HBAD:=zH hbad;clear hb3 hgood hbad d1
       cases hcx:bP G D x with
       | none =>
        have he:=HBAD.out hcx;subst he;have HN:=zH (show gy G D s=none by rw[aiG.out,jM,hcx]);clear hcx
        go_wp2
        go_ret2
        exact iT (Ic.out _ aiH.out.below) HN.out
       | some d =>
        obtain⟨A3,k3,rfl,hrd⟩:=jL.out d hcx;obtain⟨J2,adj⟩:=HLEN.out x d hcx
        have hf:gy G D s=match rz cur d with
         | none=>none
         | some c'=>jM G D c' (r.drop (i+1)):=by rw[aiG.out,jM,hcx];rfl
        have HF3:=zH hf;have Sc:=zH hrd;have HDS:=zH adj;obtain⟨dl,hdl⟩:∃ dl,d.length=dl:=⟨_,rfl⟩;have LX:=zH hdl;rw[hdl] at J2 ⊢;clear hcx hrd adj hf hdl jL HBAD;have hmm2:(i+1)*1000000≤100000000000:=by omega
        go_wp2_with fail
        refine (Lv aiH.out A3 dl k3 d (by have:=Sc.out;rwa [LX.out] at this) HDS.out.lits (by omega) J2).mono ?_
        rintro e w4 ⟨hgood,hbad⟩
        have jL:=zH hgood;have HBAD:=zH hbad;clear hgood hbad
        by_cases hone:(qF cur d).length=1
        ·obtain⟨l,hl⟩:∃ l,qF cur d=[l]:=by
          match hp:qF cur d,hone with
          | [l],_=>exact⟨l,rfl⟩
         obtain⟨rfl,_,t,ht,hmem⟩:=jL.out l hl;obtain⟨e,he1,he2,he3⟩:=VU HC.out HDS.out hl
         have Bv:St w2.heap.size w2 w4 (star (ms Tryz.prog 3 3 w2.heap.size (m+d.length) e) emp):=by
          rw[Zy (s:=e) (t:=t) fun z=>by rw[he3,hmem]];exact ht
         have H4:=zH Bv;have Ub:=ZG he1;have hnew:gy G D s=jM G D e (r.drop (i+1)):=by rw[HF3.out,he1]
         have ZJ:=zH hnew;have HE2:=zH he2;have hdl2:=LX.out;clear hl ht hmem he1 he2 he3 Bv hnew hone jL HBAD
         go_wp2
         go_roundw
         case rel=>exact⟨i+1,by omega,by go_num,m+d.length,e,by omega,by omega,H4.out,HE2.out,ZJ.out⟩
         case measure=>simp[intOf];omega
        ·obtain⟨rfl,h4⟩:=HBAD.out hone;have H4:=zH h4;have hno:=Iw HDS.out hone;have HN:=zH (show gy G D s=none by rw[HF3.out,hno]);clear h4 hno hone
         go_wp2
         go_ret2
         exact iT (Ic.out _ H4.out.below) HN.out
      ·obtain rfl:i=nS-1:=by omega
       have hfin:gy G D s=some cur:=by
        have:=MP.out
        rwa [List.drop_of_length_le (by rw[HRL.out];exact Nat.le_refl _),jM] at this
       have qA:=zH hfin;clear hfin MP
       go_wp2_with fail
       refine (ZF _ _).mono ?_
       rintro e w3 ⟨rfl,rfl⟩
       go_wp2_with fail
       refine (GJ H.out HC.out (fun z=>Iff.rfl) (by omega)).mono ?_
       rintro e w4 ⟨A4,k4,rfl,hb4,hrd⟩
       have HB4:=zH hb4;have amG:=zH hrd;clear hb4 hrd
       go_wp2
       go_ret2
       refine⟨(Ic.out _ H.out.below).trans (HB4.out.mono (Ic.out _ H.out.below).size),fun c' hc'=>?_,fun hc'=>(by rw[qA.out] at hc';cases hc')⟩;rw[qA.out] at hc'
       cases hc'
       exact⟨A4,k4,rfl,amG.out⟩
def Uc (H:Nat) (w:World) (xs:List Int) (e:Ending) (w':World):Prop :=
 (∀ s,qh xs=some s→∃ a c,e=.returned (.tuple #[iB a s.length c,.bool true])∧St H w w' (bO 3 a c s)) ∧
 (qh xs=none→e=.returned (.tuple #[.slice none 0 0,.bool false])∧St H w w' emp)
theorem Po (A:Option Addr) (n cap:Nat) (xs:List Int) (w:World) (hr:Rd w A n xs) (hn:n≤1000000) :
  Calls Tryz.prog 27 #[.slice A n cap] w (Uc w.heap.size w xs):=by
 have hl:=zH hr.len
 go_enter Tryz.func27,Tryz.ntmps27
 go_wp2
 go_loopw [4,5] (fun v i wr=>∃ (k:Nat) (out:List Int) (a:Option Nat) (c:Nat),k≤n∧out.length≤k∧i=.int .i64 k∧v=iB a out.length c∧Hid (lQ out (xs.drop k)=qh xs)∧St w.heap.size w wr (star (bO 3 a c out) emp)) (fun _ i _=>n-(intOf i).toNat)
 case atStart=>exact⟨0,[],none,0,Nat.zero_le _,Nat.le_refl _,rfl,rfl,rfl,⟨(St.start w).below,(St.start w).base,(St.start w).sat.uh _ _⟩⟩
 case round =>
  obtain⟨k,out,a,c,hk,ho,rfl,rfl,HX,hst⟩:=hrel;obtain⟨wo,rfl⟩:∃ wo:World,wo=wr:=⟨_,rfl⟩
  by_cases hlt:k<n
  ·obtain⟨b,o,rfl,hc⟩:=(hr.grow hst.below).cells (by omega);have hck:=hc k hlt;have hrw:=hr.grow hst.below;clear hc;obtain⟨x,hx⟩:∃ x,gi xs k=x:=⟨_,rfl⟩;have HXX:=zH hx;rw[hx] at hck;clear hx;obtain⟨L,hL⟩:∃ L,out.length=L:=⟨_,rfl⟩;have HL:=zH hL;rw[hL] at ho ⊢;clear hL
   cases hok:gH x
   ·have HB:=zH (Uo (out:=out) (xs:=xs) (k:=k) (by have:=hl.out;omega) (by rw[HXX.out];exact hok))
    have hfin:Uc w.heap.size w xs (.returned (.tuple #[.slice none 0 0,.bool false])) wo:=by
     refine⟨fun s hs=>?_,fun _=>⟨rfl,hst.wH⟩⟩;rw[←HX.out,HB.out] at hs
     cases hs
    have HF:=zH hfin;have hok':x=0∨2147483647<x∨x< -2147483647:=by simp[gH] at hok;omega
    clear hok hfin;unfold iB
    by_cases h1:x=0
    ·have hd1:(x==0)=true:=by simpa using h1
     clear hok' h1
     go_wp2
     go_ret2
     exact HF.out
    ·have hd1:(x==0)=false:=by simpa using h1
     by_cases h2:2147483647<x
     ·have hd2:decide (2147483647<x)=true:=by simpa using h2
      clear hok' h1
      go_wp2
      go_ret2
      exact HF.out
     ·have hd2:decide (2147483647<x)=false:=by simpa using h2
      have hd3:decide (x< -2147483647)=true:=by simp;omega
      clear hok' h1
      go_wp2
      go_ret2
      exact HF.out
   ·have HS:=zH (Wv (out:=out) (xs:=xs) (k:=k) (by have:=hl.out;omega) (by rw[HXX.out];exact hok));have hok':x≠0∧-2147483647≤x∧x≤2147483647:=by simpa [gH] using hok
    obtain⟨h1,h2,h3⟩:=hok';have hd1:(x==0)=false:=by simpa using h1
    have hd2:decide (2147483647<x)=false:=by simp;omega
    have hd3:decide (x< -2147483647)=false:=by simp;omega
    obtain⟨_,hLc,_,hnone,_⟩:=hst.sat.aR;have HN:=zH hnone;clear h1 hnone hok;unfold iB
    go_wp2
    go_loopw [6] (fun q w2=>∃ j:Nat,j≤L∧q=.int .i64 j∧Hid (∀ i,i<j→gi out i<x)∧bJ wo w2) (fun q _=>L-(intOf q).toNat)
    case atStart=>exact⟨0,Nat.zero_le _,rfl,(fun i hi=>by omega:∀ i,i<0→gi out i<x),bJ.refl _⟩
    case round =>
     obtain⟨j,hj,rfl,HA,hD⟩:=hrel;have Ir:=hst.drawn hD;have hck2:wr.cell? ⟨b,o+k,none⟩=some (.int .i64 x):=by rw[←hck];simp[World.cell?,hD.heap]
     by_cases hjl:j<L
     ·have hd4:decide ((j:Int)<(L:Int))=true:=by simp;omega
      have h0:(0:Int)≤(j:Int):=by omega
      have h0':(j:Int)<(L:Int):=by omega
      have hk0:(0:Int)≤(k:Int):=by omega
      have hk0':(k:Int)<(n:Int):=by omega
      cases a with
      | none=>have:=(HN.out rfl).1;have:=HL.out;omega
      | some ba =>
      have hcj:wr.cell? ⟨ba,j,none⟩=some (.int .i64 (gi out j)):=by
       rw[St.aW (h:=Ir) j (by have:=HL.out;simp;omega),iZ _ _ (by have:=HL.out;omega)]
      cases hy:decide (gi out j<x)
      ·have hy':x≤gi out j:=by simpa using hy
       cases he:gi out j==x
       ·go_wp2
        go_quiet (fail)
        go_wp2
        go_quiet (fail)
        go_wp2_with (at_builtin;refine cO rfl _ _ 27 3 rfl Tryz.underlying27 Tryz.gQ (Ir.drewN _) L HL.out rfl 0 rfl (by omega) ?_;intro b' c' w' h2)
        have HI:=zH (show ins x out=out.take j++x :: out.drop j from Qf (by have:=HL.out;omega) HA.out (fun h=>by have h9:gi out j≠x:=(by simpa using he);omega))
        have Bv:St w.heap.size w w' (star (bO 3 (some b') c' (out.take L++0 :: out.drop L)) emp):=by
         have:=Ck out 0;rw[HL.out] at this;rw[←this];exact h2
        clear h2
        go_loopw [7] (fun q w2=>∃ (jj:Nat) (z:Int),j≤jj∧jj≤L∧q=.int .i64 jj∧St w.heap.size w w2 (star (bO 3 (some b') c' (out.take jj++z :: out.drop jj)) emp)) (fun q _=>(intOf q).toNat-j)
        case atStart=>exact⟨L,0,by omega,Nat.le_refl _,rfl,Bv⟩
        case round =>
         obtain⟨jj,z,hj1,hj2,rfl,BZ⟩:=hrel;have hlen:(out.take jj++z :: out.drop jj).length=L+1:=by have:=HL.out;simp;omega
         have HLEN:=zH hlen;clear hlen
         by_cases hjj:j<jj
         ·obtain⟨i,rfl⟩:∃ i,jj=i+1:=⟨jj-1,by omega⟩
          have hr1:wr.cell? ⟨b',i,none⟩=some (.int .i64 (gi out i)):=by
           rw[St.aW (h:=BZ) i (by rw[dL];have:=HLEN.out;omega),iZ _ _ (by have:=HLEN.out;omega)];have:=Qh (out:=out) (j:=i+1) z (by omega) (by have:=HL.out;omega);simp only[Nat.add_sub_cancel] at this;rw[this]
          have hr2:wr.cell? ⟨b',i+1,none⟩=some (.int .i64 (gi (out.take (i+1)++z :: out.drop (i+1)) (i+1))):=by
           rw[St.aW (h:=BZ) (i+1) (by rw[dL];have:=HLEN.out;omega),iZ _ _ (by have:=HLEN.out;omega)]
          have hf2:wr.frozen? ⟨b',i+1,none⟩=false:=St.bZ (h:=BZ) (i+1)
          go_wp2
          go_roundw
          case rel =>
           refine⟨i,gi out i,by omega,by omega,by go_num,?_⟩;have h6:=St.fH BZ (i+1) (.int .i64 (gi out i)) (by rw[dL];have:=HLEN.out;omega);have h7:=Qg (out:=out) (j:=i+1) z (by omega) (by have:=HL.out;omega);simp only[Nat.add_sub_cancel] at h7;rw[ints_set,h7] at h6;rw[show bO 3 (some b') c' (out.take i++gi out i :: out.drop i)=sl (some b') (out.take (i+1)++z :: out.drop (i+1)).length c' 3 1 (ints (out.take i++gi out i :: out.drop i)) from by unfold bO;rw[HLEN.out];congr 1;have:=HL.out;simp;omega];exact h6
          case measure=>simp[intOf];omega
         ·obtain rfl:j=jj:=by omega
          have hr1:wr.cell? ⟨b,o+k,none⟩=some (.int .i64 x):=by rw[(hr.grow BZ.below).cell hlt,HXX.out]
          have hr2:wr.cell? ⟨b',j,none⟩=some (.int .i64 (gi (out.take j++z :: out.drop j) j)):=by
           rw[St.aW (h:=BZ) j (by rw[dL];have:=HLEN.out;omega),iZ _ _ (by have:=HLEN.out;omega)]
          have hf2:wr.frozen? ⟨b',j,none⟩=false:=St.bZ (h:=BZ) j
          go_wp2
          go_roundw
          case rel =>
           have hi:(ins x out).length=L+1:=by rw[HI.out];have:=HL.out;simp;omega
           refine⟨k+1,ins x out,some b',c',by omega,by omega,by go_num,by rw[hi];rfl,?_,?_⟩
           ·have:=HS.out;rw[HXX.out] at this;exact (this.symm.trans HX.out:_=_)
           ·have h6:=St.fH BZ j (.int .i64 x) (by rw[dL];have:=HLEN.out;omega);rw[ints_set,IL z x (by have:=HL.out;omega),←HI.out] at h6;rw[show bO 3 (some b') c' (ins x out)=sl (some b') (out.take j++z :: out.drop j).length c' 3 1 (ints (ins x out)) from by unfold bO;rw[HLEN.out,hi]];exact h6
          case measure=>simp[intOf];omega
       ·have HT:=zH (IJ (x:=x) (out:=out) (j:=j) (by have:=HL.out;omega) HA.out (by simpa using he))
        go_wp2
        go_quiet (fail)
        go_wp2
        go_quiet (fail)
        go_wp2
        go_roundw
        case rel =>
         refine⟨k+1,out,some ba,c,by omega,by have:=HL.out;omega,by go_num,by rw[HL.out],?_,Ir.drewN _⟩;have:=HS.out;rw[HXX.out,HT.out] at this;exact (this.symm.trans HX.out:_=_)
        case measure=>simp[intOf];omega
      ·go_wp2
       go_quiet (fail)
       go_wp2
       go_roundw
       case rel=>exact⟨j+1,by omega,by go_num,(fun i hi=>by
        rcases Nat.lt_succ_iff_lt_or_eq.1 hi with h | h
        ·exact HA.out i h
        ·subst h;simpa using hy:∀ i,i<j+1→gi out i<x),hD.step _⟩
       case measure=>simp[intOf];omega
     ·obtain rfl:j=L:=by omega
      have hd4:decide ((j:Int)<(j:Int))=false:=by simp
      go_wp2
      go_quiet (fail)
      go_wp2
      go_quiet (fail)
      go_wp2_with (at_builtin;refine cO rfl _ _ 27 3 rfl Tryz.underlying27 Tryz.gQ (Ir.drewN _) j HL.out rfl 0 rfl (by omega) ?_;intro b' c' w' h2)
      have HI:=zH (show ins x out=out.take j++x :: out.drop j from Qf (by have:=HL.out;omega) HA.out (fun h=>by have:=HL.out;omega))
      have Bv:St w.heap.size w w' (star (bO 3 (some b') c' (out.take j++0 :: out.drop j)) emp):=by
       have:=Ck out 0;rw[HL.out] at this;rw[←this];exact h2
      clear h2
      go_loopw [7] (fun q w2=>∃ (jj:Nat) (z:Int),j≤jj∧jj≤j∧q=.int .i64 jj∧St w.heap.size w w2 (star (bO 3 (some b') c' (out.take jj++z :: out.drop jj)) emp)) (fun q _=>(intOf q).toNat-j)
      case atStart=>exact⟨j,0,Nat.le_refl _,Nat.le_refl _,rfl,Bv⟩
      case round =>
       obtain⟨jj,z,hj1,hj2,rfl,BZ⟩:=hrel;have hlen:(out.take jj++z :: out.drop jj).length=j+1:=by have:=HL.out;simp;omega
       have HLEN:=zH hlen;clear hlen
       by_cases hjj:j<jj
       ·exact absurd hjj (by omega)
       ·obtain rfl:j=jj:=by omega
        have hr1:wr.cell? ⟨b,o+k,none⟩=some (.int .i64 x):=by rw[(hr.grow BZ.below).cell hlt,HXX.out]
        have hr2:wr.cell? ⟨b',j,none⟩=some (.int .i64 (gi (out.take j++z :: out.drop j) j)):=by
         rw[St.aW (h:=BZ) j (by rw[dL];have:=HLEN.out;omega),iZ _ _ (by have:=HLEN.out;omega)]
        have hf2:wr.frozen? ⟨b',j,none⟩=false:=St.bZ (h:=BZ) j
        go_wp2
        go_roundw
        case rel =>
         have hi:(ins x out).length=j+1:=by rw[HI.out];have:=HL.out;simp;omega
         refine⟨k+1,ins x out,some b',c',by omega,by omega,by go_num,by rw[hi];rfl,?_,?_⟩
         ·have:=HS.out;rw[HXX.out] at this;exact (this.symm.trans HX.out:_=_)
         ·have h6:=St.fH BZ j (.int .i64 x) (by rw[dL];have:=HLEN.out;omega);rw[ints_set,IL z x (by have:=HL.out;omega),←HI.out] at h6;rw[show bO 3 (some b') c' (ins x out)=sl (some b') (out.take j++z :: out.drop j).length c' 3 1 (ints (ins x out)) from by unfold bO;rw[HLEN.out,hi]];exact h6
        case measure=>simp[intOf];omega
  ·have hd1:decide ((k:Int)<(n:Int))=false:=by simp;omega
   go_wp2
   go_ret2
   refine⟨fun s hs=>?_,fun hs=>?_⟩
   ·rw[←HX.out,IK (by have:=hl.out;omega)] at hs;obtain rfl:out=s:=by simpa using hs
    exact⟨a,c,rfl,by simpa [aQ] using hst⟩
   ·rw[←HX.out,IK (by have:=hl.out;omega)] at hs
    cases hs
def sZ (c d:List Int) (j:Nat):Nat:=(piv (c.take j) d).length
def CU (c d:List Int) (j:Nat):Int:=match (piv (c.take j) d).getLast? with
 | none=>0
 | some l=>l
theorem Pp (c d:List Int) (x:Int):piv (c++[x]) d=if hasB d (-x) then piv c d++[x] else piv c d:=by
 unfold piv;rw[List.filter_append]
 cases h:hasB d (-x) <;> simp[h]
theorem Pq {c d:List Int} {j:Nat} (h:j<c.length):sZ c d (j+1)=if hasB d (-gi c j) then sZ c d j+1 else sZ c d j:=by
 unfold sZ;rw[gV c j h,Pp]
 split <;> simp
theorem Sd {c d:List Int} {j:Nat} (h:j<c.length):CU c d (j+1)=if hasB d (-gi c j) then gi c j else CU c d j:=by
 unfold CU;rw[gV c j h,Pp]
 by_cases hb:hasB d (-gi c j)=true
 ·rw[if_pos hb,if_pos hb,List.getLast?_concat]
 ·rw[if_neg hb,if_neg hb]
theorem AP {c:List Int} {x:Int} {j:Nat} (h:j<c.length):(c.take (j+1)).filter (fun y=>y != x)=if gi c j != x then (c.take j).filter (fun y=>y != x)++[gi c j] else (c.take j).filter (fun y=>y != x):=by
 rw[gV c j h,List.filter_append]
 cases hb:gi c j != x <;> simp[hb]
theorem AQ (A:Option Addr) (n cA:Nat) (c:List Int) (A':Option Addr) (m cB:Nat) (d:List Int) (w:World) (hr:Rd w A n c) (hr':Rd w A' m d) (hc:gD c) (hd:gD d) (hn:n≤400000) (hm:m≤400000) :
  Calls Tryz.prog 78 #[.slice A n cA,.slice A' m cB] w (GL w (rz c d)):=by
 have HR:=zH hr;have HR':=zH hr';have HC:=zH hc;have HD:=zH hd;have HLC:=zH hr.len;have HLD:=zH hr'.len;clear hr hr' hc hd
 go_enter Tryz.func78,Tryz.ntmps78
 go_wp2
 go_loop [6,7,8] (fun v6 v7 v8=>∃ j:Nat,j≤n∧v8=.int .i64 j∧(∃ q:Nat,q≤j∧v7=.int .i64 q∧Hid (sZ c d j=q))∧∃ x:Int,v6=.int .i64 x∧Hid (CU c d j=x)) (fun _ _ v8=>n-(intOf v8).toNat)
 case atStart=>exact⟨0,Nat.zero_le _,rfl,⟨0,Nat.le_refl _,rfl,(rfl:sZ c d 0=0)⟩,0,rfl,(rfl:CU c d 0=0)⟩
 case round =>
  obtain⟨j,hj,rfl,⟨q,hq,rfl,HQ⟩,x,rfl,HX⟩:=hrel
  by_cases hjn:j<n
  ·obtain⟨bd,od,hA,hcell⟩:=HR.out.cells (by omega);subst hA;have d1:=hcell j hjn;have hjc:j<c.length:=by rw[HLC.out];exact hjn
   obtain⟨l,hl⟩:∃ l,gi c j=l:=⟨_,rfl⟩;rw[hl] at d1;have GK:gH l=true:=by rw[←hl,dh c j hjc];exact HC.out.lits _ (List.getElem_mem _)
   obtain⟨_,l1,l2⟩:=lF.1 GK;have hwr:IntKind.i64.wrap (-l)=-l:=IntWalk.i64_in _ (by omega);have hfs:=Pq (c:=c) (d:=d) hjc;have hls:=Sd (c:=c) (d:=d) hjc;rw[hl] at hfs hls;have Wm:=zH hfs;have Qu:=zH hls;have j0:(0:Int)≤(j:Int):=by omega
   have j1:(j:Int)<(n:Int):=by omega
   clear hcell hjc hl GK hfs hls
   go_wp2_with fail
   refine (sJ A' m cB d (-l) w HR'.out).mono ?_
   rintro e w' ⟨rfl,rfl⟩
   cases hb:hasB d (-l) with
   | true =>
    have HB:=zH hb;clear hb
    go_wp2
    go_round
    case rel=>exact⟨j+1,by omega,by go_num,⟨q+1,by omega,by go_num,(by rw[Wm.out,HB.out,HQ.out];rfl:sZ c d (j+1)=q+1)⟩,l,rfl,(by rw[Qu.out,HB.out];rfl:CU c d (j+1)=l)⟩
    case measure=>simp[intOf];omega
   | false =>
    have HB:=zH hb;clear hb
    go_wp2
    go_round
    case rel=>exact⟨j+1,by omega,by go_num,⟨q,by omega,rfl,(by rw[Wm.out,HB.out];exact HQ.out:sZ c d (j+1)=q)⟩,x,rfl,(by rw[Qu.out,HB.out];exact HX.out:CU c d (j+1)=x)⟩
    case measure=>simp[intOf];omega
  ·obtain rfl:j=n:=by omega
   have htk:c.take j=c:=List.take_of_length_le (by rw[HLC.out];exact Nat.le_refl _);have hpl:(piv c d).length=q:=by have:=HQ.out;unfold sZ at this;rwa [htk] at this
   have Wh:=zH hpl
   by_cases hq1:q=1
   ·subst hq1
    have hone:piv c d=[x]:=by
     match hp:piv c d,hpl with
     | [l],_ =>
      have:=HX.out;unfold CU at this;rw[htk,hp] at this;exact congrArg (fun y=>[y]) this
    obtain⟨s,hs1,hs2,hs3⟩:=Pb HC.out HD.out hone;have hxm:x∈c:=(List.mem_filter.1 (show x∈piv c d by rw[hone];simp)).1;obtain⟨_,x1,x2⟩:=lF.1 (HC.out.lits x hxm);have hres:qh (Ls c d x)=some s:=by have:=hs1;unfold rz at this;rwa [hone] at this
    have yw:=zH hs1;have amH:=zH hres;have hwr:IntKind.i64.wrap (-x)=-x:=IntWalk.i64_in _ (by omega);have RY:=zH (show St w.heap.size w w (star (bO 3 none 0 []) emp) from⟨Below.refl _ _,Nat.le_refl _,(St.start w).sat.uh _ _⟩);clear htk hpl hone hs1 hs2 hs3 hxm hres
    go_wp2
    go_loopw [9,10] (fun v9 v10 wr=>∃ (i:Nat) (xa:Option Nat) (xc t:Nat) (xs:List Int),i≤j∧t≤i∧v10=.int .i64 i∧v9=.slice (xa.map fun b=>⟨b,0,none⟩) t xc∧Hid (xs.length=t)∧Hid (St w.heap.size w wr (star (bO 3 xa xc xs) emp))∧Hid (xs=(c.take i).filter fun y=>y != x)) (fun _ v10 _=>j-(intOf v10).toNat)
    case atStart=>exact⟨0,none,0,0,[],Nat.zero_le _,Nat.le_refl _,rfl,rfl,(rfl:([]:List Int).length=0),RY.out,(rfl:[]=(c.take 0).filter fun y=>y != x)⟩
    case round =>
     obtain⟨i,xa,xc,t,xs,hi,ht,rfl,rfl,tO,HST,Wl⟩:=hrel
     by_cases hij:i<j
     ·obtain⟨bd,od,hA,hcell⟩:=(HR.out.grow HST.out.below).cells (by omega);subst hA;have d1:=hcell i hij;have hws:=AP (c:=c) (x:=x) (j:=i) (by rw[HLC.out];exact hij);obtain⟨y,hy⟩:∃ y,gi c i=y:=⟨_,rfl⟩;rw[hy] at d1 hws;have NG:=zH hws;have i0:(0:Int)≤(i:Int):=by omega
      have i1:(i:Int)<(j:Int):=by omega
      clear hcell hws hy
      cases hb:y != x with
      | false =>
       have HB:=zH hb
       go_wp2
       go_roundw
       case rel=>exact⟨i+1,xa,xc,t,xs,by omega,by omega,by go_num,rfl,tO.out,HST.out,(by rw[NG.out,HB.out];exact Wl.out:xs=(c.take (i+1)).filter fun y=>y != x)⟩
       case measure=>simp[intOf];omega
      | true =>
       have HB:=zH hb
       go_wp2_with (at_builtin;refine cO rfl _ _ 27 3 rfl Tryz.underlying27 Tryz.gQ HST.out t tO.out rfl y rfl (by omega) ?_;intro b' ZK w7 h7;have H7:=zH h7;clear h7)
       go_roundw
       case rel=>exact⟨i+1,some b',ZK,t+1,xs++[y],by omega,by omega,by go_num,rfl,(by rw[List.length_append,tO.out];rfl:(xs++[y]).length=t+1),H7.out,(by rw[NG.out,HB.out,Wl.out];rfl:xs++[y]=(c.take (i+1)).filter fun y=>y != x)⟩
       case measure=>simp[intOf];omega
     ·obtain rfl:i=j:=by omega
      have hxs:xs=c.filter fun y=>y != x:=by
       have:=Wl.out
       rwa [List.take_of_length_le (by rw[HLC.out];exact Nat.le_refl _)] at this
      have HXF:=zH hxs;clear hxs Wl
      go_wp2
      go_loopw [9,11] (fun v9 v11 wr=>∃ (k:Nat) (ya:Option Nat) (yc u:Nat) (ys:List Int),k≤m∧u≤i+k∧v11=.int .i64 k∧v9=.slice (ya.map fun b=>⟨b,0,none⟩) u yc∧Hid (ys.length=u)∧Hid (St w.heap.size w wr (star (bO 3 ya yc ys) emp))∧Hid (ys=xs++(d.take k).filter fun y=>y != -x)) (fun _ v11 _=>m-(intOf v11).toNat)
      case atStart=>exact⟨0,xa,xc,t,xs,Nat.zero_le _,by omega,rfl,rfl,tO.out,HST.out,(by simp:xs=xs++(d.take 0).filter fun y=>y != -x)⟩
      case round =>
       obtain⟨k,ya,yc,u,ys,hk,hu,rfl,rfl,Ve,lU,HYS⟩:=hrel
       by_cases hkm:k<m
       ·obtain⟨bd,od,hA,hcell⟩:=(HR'.out.grow lU.out.below).cells (by omega);subst hA;have d1:=hcell k hkm;have hws:=AP (c:=d) (x:=-x) (j:=k) (by rw[HLD.out];exact hkm);obtain⟨y,hy⟩:∃ y,gi d k=y:=⟨_,rfl⟩;rw[hy] at d1 hws;have NG:=zH hws;have k0:(0:Int)≤(k:Int):=by omega
        have k1:(k:Int)<(m:Int):=by omega
        clear hcell hws hy
        cases hb:y != -x with
        | false =>
         have HB:=zH hb
         go_wp2
         go_roundw
         case rel=>exact⟨k+1,ya,yc,u,ys,by omega,by omega,by go_num,rfl,Ve.out,lU.out,(by rw[NG.out,HB.out];exact HYS.out:ys=xs++(d.take (k+1)).filter fun y=>y != -x)⟩
         case measure=>simp[intOf];omega
        | true =>
         have HB:=zH hb
         go_wp2_with (at_builtin;refine cO rfl _ _ 27 3 rfl Tryz.underlying27 Tryz.gQ lU.out u Ve.out rfl y rfl (by omega) ?_;intro b' ZK w7 h7;have H7:=zH h7;clear h7)
         go_roundw
         case rel=>exact⟨k+1,some b',ZK,u+1,ys++[y],by omega,by omega,by go_num,rfl,(by rw[List.length_append,Ve.out];rfl:(ys++[y]).length=u+1),H7.out,(by rw[NG.out,HB.out,HYS.out,List.append_assoc];rfl:ys++[y]=xs++(d.take (k+1)).filter fun y=>y != -x)⟩
         case measure=>simp[intOf];omega
       ·obtain rfl:k=m:=by omega
        have hys:ys=Ls c d x:=by
         have:=HYS.out;rw[List.take_of_length_le (by rw[HLD.out];exact Nat.le_refl _),HXF.out] at this;exact this
        have hset:qh ys=some s:=by rw[hys];exact amH.out
        have mV:=zH hset;have hrd:=St.rd lU.out (by rw[Ve.out];omega);rw[Ve.out] at hrd;have HRY:=zH hrd;clear hys hset hrd HYS
        go_wp2_with fail
        refine (Po _ u yc ys _ HRY.out (by omega)).mono ?_
        rintro e w9 hpost
        obtain⟨a9,c9,rfl,VX⟩:=hpost.1 s mV.out;have hlen:=AJ mV.out;rw[Ve.out] at hlen;have aiJ:=St.rd (VX.aB (aQ _).symm) (by omega);have amI:=zH aiJ;have HB9:=zH (lU.out.below.trans (VX.below.mono lU.out.below.size));obtain⟨sl,hsl⟩:∃ sl,s.length=sl:=⟨_,rfl⟩;have HSL:=zH hsl;unfold iB;rw[hsl];clear hpost VX hlen aiJ hsl
        go_wp2
        go_ret2
        refine⟨HB9.out,fun s' hs'=>?_,fun h=>(by rw[yw.out] at h;cases h)⟩;rw[yw.out] at hs'
        cases hs'
        exact⟨_,c9,by rw[HSL.out];rfl,amI.out⟩
   ·have e0:((q:Int) != 1)=true:=by simp;omega
    have hno:=Pf (c:=c) (d:=d) (by rw[Wh.out];exact hq1);have HN:=zH hno;clear htk hpl hno
    go_wp2
    go_ret2
    exact iT (Below.refl _ _) HN.out
end Go.Proofs.YthbbmdnfkkffjaaGreat

/-
  Parts of the proof, joined by program: Byte4, Chk.
-/
import Derived.Test.YthbbmdnfkkffjaaGreatY41
import Derived.Test.YthbbmdnfkkffjaaGreatY01
import Derived.Lib.Hide
set_option maxHeartbeats 8000000
set_option maxRecDepth 100000
namespace Go.Proofs.YthbbmdnfkkffjaaGreat
open Go.RowKit Go.Proofs.aC Go.Proofs.au
def LA (w:World) (b:List Int) (e:Ending) (w':World):Prop :=
 Below w.heap.size w w'∧((iH b).2=0→∃ A c,e=.returned (.tuple #[.slice A (iH b).1.length c,.int .i64 0])∧um w' A (iH b).1.length (iH b).1∧RP w' A (iH b).1.length) ∧
  ((iH b).2≠0→e=.returned (.tuple #[.slice none 0 0,.int .i64 120]))
theorem dw {w w':World} {b:List Int} (hB:Below w.heap.size w w') (h:iH b=([],120)):LA w b (.returned (.tuple #[.slice none 0 0,.int .i64 120])) w' :=
 ⟨hB,fun h'=>(by rw[h] at h';cases h'),fun _=>rfl⟩
def ny {α:Type} (pre:List α) (o:Option (List α×List Int)):Option (List α×List Int):=o.map fun p=>(pre++p.1,p.2)
theorem J3 {pre:List (List Int)} {m:Nat} {b x r:List Int} (h:Gv b=some (x,r)):ny pre (fF (m+1) b)=ny (pre++[x]) (fF m r):=by
 conv=>lhs;unfold fF
 rw[h];simp only
 cases fF m r with
 | none=>rfl
 | some p=>simp[ny]
theorem iJ {pre:List (List Int)} {m:Nat} {b:List Int} (h:Gv b=none):ny pre (fF (m+1) b)=none:=by
 unfold fF;rw[h];rfl
theorem J4 {pre:List Int} {m:Nat} {b r:List Int} {x:Int} (h:dN b=some (x,r)):ny pre (iR (m+1) b)=ny (pre++[x]) (iR m r):=by
 conv=>lhs;unfold iR
 rw[h];simp only
 cases iR m r with
 | none=>rfl
 | some p=>simp[ny]
theorem vE {pre:List Int} {m:Nat} {b:List Int} (h:dN b=none):ny pre (iR (m+1) b)=none:=by
 unfold iR;rw[h];rfl
theorem AR {α:Type} (o:Option (List α×List Int)):ny [] o=o:=by
 cases o with
 | none=>rfl
 | some p=>simp[ny]
theorem LB {b r:List Int} {n:Int} (h:dN b=some (n,r)):Gv b=iR n.toNat r:=by unfold Gv;rw[h]
theorem Cc {b:List Int} (h:dN b=none):Gv b=none:=by unfold Gv;rw[h]
theorem CV {k:Nat} {b:List Int} (h:b.length<4*k):iR k b=none:=by
 cases e:iR k b with
 | none=>rfl
 | some p =>
  obtain⟨l,r⟩:=p;have:=(sS _ _ _ _ e).1;omega
theorem Pz {k:Nat} {b:List Int} (h:b.length<4*k):fF k b=none:=by
 cases e:fF k b with
 | none=>rfl
 | some p =>
  obtain⟨l,r⟩:=p;have:=(ni _ _ _ _ e).1;omega
section
variable {b r r2:List Int} {h m:Int}
theorem yU (h1:dN b=none):iH b=([],120):=by unfold iH;rw[h1]
theorem tq (h1:dN b=some (h,r)) (h2:dN r=none):iH b=([],120):=by unfold iH;rw[h1];simp only;rw[h2]
theorem GU (h1:dN b=some (h,r)) (h2:dN r=some (m,r2)) (h3:h≠1347179569):iH b=([],120):=by
 unfold iH;rw[h1];simp only;rw[h2];simp only;rw[if_pos h3]
theorem Ce (h1:dN b=some (1347179569,r)) (h2:dN r=some (m,r2)) (h3:fF m.toNat r2=none):iH b=([],120):=by
 unfold iH;rw[h1];simp only;rw[h2];simp only;rw[if_neg (by simp),h3]
theorem J5 {l:List (List Int)} {x:Int} {t:List Int} (h1:dN b=some (1347179569,r)) (h2:dN r=some (m,r2)) (h3:fF m.toNat r2=some (l,x :: t)):iH b=([],120):=by
 unfold iH;rw[h1];simp only;rw[h2];simp only;rw[if_neg (by simp),h3]
theorem Ud {l:List (List Int)} (h1:dN b=some (1347179569,r)) (h2:dN r=some (m,r2)) (h3:fF m.toNat r2=some (l,[])):iH b=(l,0):=by
 unfold iH;rw[h1];simp only;rw[h2];simp only;rw[if_neg (by simp),h3]
end
theorem vF {b r:List Int} {n:Int} (hb:dz b) (h:dN b=some (n,r)):0≤n∧n≤2147483647:=DT.1 (pE hb h).2.1
theorem Sj (A:Option Addr) (n c:Nat) (b:List Int) (w:World) (hr:pK w A n b) (hb:dz b) (hn:n≤1000000) (hc:n≤c) (hcm:c≤9223372036854775807) :
  Calls Tryz.prog 79 #[.slice A n c] w (LA w b):=by
 have HR:=zH hr;have HB:=zH hb;have hd0:decide (4194304<(n:Int))=false:=by simp;omega
 cases h1:dN b with
 | none =>
  have hbad:=yU h1;have HBAD:=zH hbad;have H1:=zH h1;clear hr hb h1 hbad
  go_enter Tryz.func79,Tryz.ntmps79
  go_wp2_with fail
  refine (jh A n c b w HR.out HB.out hc hcm).mono ?_
  rintro e w2 ⟨hbad,_⟩
  obtain⟨rfl,hD⟩:=hbad H1.out;have HD:=zH hD;clear hD hbad
  go_wp2_with fail
  refine (jh A n c b w2 (pK.drawn HR.out HD.out) HB.out hc hcm).mono ?_
  rintro e w3 ⟨hbad,_⟩
  obtain⟨rfl,hD3⟩:=hbad H1.out;have HD3:=zH (HD.out.trans hD3);clear hD3 hbad
  go_wp2
  go_ret2
  exact dw (HD3.out.below _) HBAD.out
 | some p1 =>
  obtain⟨hd,r⟩:=p1;have hrl:=gu h1;have hbr:=(pE hb h1).2.2;have H1:=zH h1;have Qt:=zH hbr;have HRL:=zH hrl
  cases h2:dN r with
  | none =>
   have hbad:=tq h1 h2;have HBAD:=zH hbad;have H2:=zH h2;clear hr hb h1 hbad h2 hrl hbr
   go_enter Tryz.func79,Tryz.ntmps79
   go_wp2_with fail
   refine (jh A n c b w HR.out HB.out hc hcm).mono ?_
   rintro e w2 ⟨_,hgood⟩
   obtain⟨A2,c2,rfl,hD,hU,hc2,hc2'⟩:=hgood _ _ H1.out;have HD:=zH hD;have HU:=zH (hU _ (pK.drawn HR.out hD));clear hD hgood hU
   go_wp2_with fail
   refine (jh A2 (n-4) c2 r w2 HU.out Qt.out hc2 (by omega)).mono ?_
   rintro e w3 ⟨hbad,_⟩
   obtain⟨rfl,hD3⟩:=hbad H2.out;have HD3:=zH (HD.out.trans hD3);clear hD3 hbad
   go_wp2
   go_ret2
   exact dw (HD3.out.below _) HBAD.out
  | some p2 =>
   obtain⟨m,r2⟩:=p2;have hrl2:=gu h2;have ZP:=(pE hbr h2).2.2;obtain⟨m0,m1⟩:=vF hbr h2;have H2:=zH h2;have afo:=zH ZP;have HRL2:=zH hrl2;obtain⟨n2,hn2⟩:∃ n2,r2.length=n2:=⟨_,rfl⟩;have hnn:n-4-4=n2:=by have:=hr.len;omega
   have Qq:=zH hn2;clear hr hb h1 h2 hrl hbr hrl2 ZP hn2;have start:∀ (K:Prop),True→True:=fun _ _=>trivial;clear start
   go_enter Tryz.func79,Tryz.ntmps79
   go_wp2_with fail
   refine (jh A n c b w HR.out HB.out hc hcm).mono ?_
   rintro e w2 ⟨_,hgood⟩
   obtain⟨A2,c2,rfl,hD,hU,hc2,hc2'⟩:=hgood _ _ H1.out;have HD:=zH hD;have HU:=zH (hU _ (pK.drawn HR.out hD));have HU0:=zH (hU _ HR.out);clear hD hgood hU
   go_wp2_with fail
   refine (jh A2 (n-4) c2 r w2 HU.out Qt.out hc2 (by omega)).mono ?_
   rintro e w3 ⟨_,hgood⟩
   obtain⟨A3,c3,rfl,hD3,hU3,hc3,amP⟩:=hgood _ _ H2.out;have HB3:=zH ((HD.out.trans hD3).below w.heap.size);have Sk:=hU3 _ HU0.out;rw[hnn] at hc3 Sk ⊢;have HU3:=zH Sk;clear hD3 hgood hU3 Sk
   by_cases aci:hd=1347179569
   ·subst aci
    by_cases adp:(n2:Int)/4<m
    ·have e1:decide ((n2:Int)/4<m)=true:=by simpa using adp
     have hbad:=Ce H1.out H2.out (Pz (by rw[Qq.out];omega));have HBAD:=zH hbad;clear hbad
     go_wp2
     go_ret2
     exact dw HB3.out HBAD.out
    ·have e1:decide ((n2:Int)/4<m)=false:=by simpa using adp
     obtain⟨M,rfl⟩:∃ M:Nat,m=M:=⟨m.toNat,by omega⟩;have hMb:M≤250000:=by omega
     have hfuel:fF M r2=none→iH b=([],120):=fun h=>Ce H1.out H2.out h;have CW:=zH hfuel;clear hfuel
     go_wp2
     go_loopw [0,8,45] (fun v0 v8 v45 wr=>∃ (k:Nat) (A':Option Addr) (n' c':Nat) (b':List Int) (a:Option Nat) (ac:Nat) (W:vk),k≤M∧n'≤n2∧n'≤c'∧c'≤c3∧v45=.int .i64 k∧v0=.slice A' n' c'∧v8=.slice (a.map fun b=>⟨b,0,none⟩) k ac∧Hid (pK w A' n' b')∧Hid (dz b') ∧
      Hid (St w.heap.size w wr (star (bR 106 a ac W) emp))∧Hid (W.length=k)∧Hid (ny (W.map fun x=>x.2.2) (fF (M-k) b')=fF M r2)∧Hid (∀ x∈W,x.2.2.length≤n2)) (fun _ _ v45 _=>M-(intOf v45).toNat)
     case atStart=>exact⟨0,A3,n2,c3,r2,none,0,[],Nat.zero_le _,Nat.le_refl _,hc3,Nat.le_refl _,rfl,rfl,rfl,HU3.out,afo.out,(by rw[nI,aQ];exact⟨HB3.out,HB3.out.size,Sat.emp _ _⟩:St w.heap.size w w3 (star (bR 106 none 0 []) emp)),(rfl:([]:vk).length=0),(AR _:ny [] (fF (M-0) r2)=fF M r2),(fun x hx=>absurd hx (by simp):∀ x∈([]:vk),x.2.2.length≤n2)⟩
     case round =>
      obtain⟨k,A',n',c',b',a,ac,W,hk,hn',hc',afp,rfl,rfl,rfl,Sl,Qc,HST,jK,Wt,NG⟩:=hrel
      by_cases hkM:k<M
      ·have amQ:(k:Int)<(M:Int):=by omega
       have hMk:M-k=(M-(k+1))+1:=by omega
       have Yf:=zH hMk;clear hMk
       cases ht:dN b' with
       | none =>
        have hbad:=CW.out (by rw[←Wt.out,Yf.out];exact iJ (Cc ht));have HBAD:=zH hbad;have HT:=zH ht;clear hbad ht
        go_wp2_with fail
        refine (jh A' n' c' b' wr (Sl.out.grow HST.out.below) Qc.out hc' (by omega)).mono ?_
        rintro e w4 ⟨hbad,_⟩
        obtain⟨rfl,hD⟩:=hbad HT.out;have HB4:=zH (HST.out.below.trans (hD.below _));clear hD hbad
        go_wp2
        go_ret2
        exact dw HB4.out HBAD.out
       | some p =>
        obtain⟨x,b2⟩:=p;have hrow:=LB ht;have hlen:=gu ht;have ZQ:=(pE Qc.out ht).2.2;obtain⟨x0,x1⟩:=vF Qc.out ht;obtain⟨n4,Tk⟩:∃ n4,b2.length=n4:=⟨_,rfl⟩;have afq:n'-4=n4:=by have:=Sl.out.len;omega
        have aiU:n4≤n2:=by omega
        have HT:=zH ht;have Dc:=zH hrow;have afr:=zH ZQ;have HN4:=zH Tk;clear ht hrow hlen ZQ Tk
        go_wp2_with fail
        refine (jh A' n' c' b' wr (Sl.out.grow HST.out.below) Qc.out hc' (by omega)).mono ?_
        rintro e w4 ⟨_,hgood⟩
        obtain⟨A4,c4,rfl,hD,hU,hc4,amR⟩:=hgood _ _ HT.out;have LC:=zH (HST.out.drawn hD);have ZR:=hU _ Sl.out;rw[afq] at hc4 ZR ⊢;have HU4:=zH ZR;clear hD hgood hU ZR
        by_cases hxn:(n4:Int)/4<x
        ·have e2:decide ((n4:Int)/4<x)=true:=by simpa using hxn
         have hbad:=CW.out (by rw[←Wt.out,Yf.out];exact iJ (by rw[Dc.out];exact CV (by rw[HN4.out];omega)));have HBAD:=zH hbad;clear hbad
         go_wp2
         go_ret2
         exact dw LC.out.below HBAD.out
        ·have e2:decide ((n4:Int)/4<x)=false:=by simpa using hxn
         obtain⟨X,rfl⟩:∃ X:Nat,x=X:=⟨x.toNat,by omega⟩;have hXb:X≤n2:=by omega
         go_wp2
         have H5:=zH (show St w.heap.size w w4 (star (bO 3 none 0 []) (bR 106 a ac W)) from⟨LC.out.below,LC.out.base,(LC.out.aB (aQ _)).sat.uh _ _⟩)
         go_loopw [0,10,63] (fun v0 v10 v63 wr=>∃ (t:Nat) (A':Option Addr) (n' c':Nat) (b':List Int) (xa:Option Nat) (xc:Nat) (xs:List Int),t≤X∧n'≤n2∧n'≤c'∧c'≤c3∧v63=.int .i64 t∧v0=.slice A' n' c'∧v10=.slice (xa.map fun b=>⟨b,0,none⟩) t xc∧Hid (pK w A' n' b')∧Hid (dz b') ∧
          Hid (St w.heap.size w wr (star (bO 3 xa xc xs) (bR 106 a ac W)))∧Hid (xs.length=t)∧Hid (ny xs (iR (X-t) b')=iR X b2)) (fun _ _ v63 _=>X-(intOf v63).toNat)
         case atStart=>exact⟨0,A4,n4,c4,b2,none,0,[],Nat.zero_le _,aiU,hc4,by omega,rfl,rfl,rfl,HU4.out,afr.out,H5.out,(rfl:([]:List Int).length=0),(AR _:ny [] (iR (X-0) b2)=iR X b2)⟩
         case round =>
          obtain⟨t,A5,n5,c5,b5,xa,xc,xs,htX,hn5,hc5,amS,rfl,rfl,rfl,IB,Cg,LD,tO,Sn⟩:=hrel
          by_cases amT:t<X
          ·have amU:(t:Int)<(X:Int):=by omega
           have hXt:X-t=(X-(t+1))+1:=by omega
           have HXT:=zH hXt;clear hXt
           cases ht5:dN b5 with
           | none =>
            have hbad:=CW.out (by rw[←Wt.out,Yf.out];exact iJ (by rw[Dc.out,Int.toNat_natCast,←Sn.out,HXT.out];exact vE ht5));have HBAD:=zH hbad;have HT5:=zH ht5;clear hbad ht5
            go_wp2_with fail
            refine (jh A5 n5 c5 b5 wr (IB.out.grow LD.out.below) Cg.out hc5 (by omega)).mono ?_
            rintro e w6 ⟨hbad,_⟩
            obtain⟨rfl,hD⟩:=hbad HT5.out;have HB6:=zH (LD.out.below.trans (hD.below _));clear hD hbad
            go_wp2
            go_ret2
            exact dw HB6.out HBAD.out
           | some p =>
            obtain⟨y,b6⟩:=p;have hlen:=gu ht5;have ZT:=(pE Cg.out ht5).2.2;obtain⟨y0,y1⟩:=vF Cg.out ht5;have Sq:=Sn.out;rw[HXT.out,J4 ht5] at Sq;obtain⟨n6,hn6⟩:∃ n6,b6.length=n6:=⟨_,rfl⟩;have amV:n5-4=n6:=by have:=IB.out.len;omega
            have hn6':n6≤n2:=by omega
            have HT5:=zH ht5;have afs:=zH ZT;have aft:=zH Sq;clear ht5 hlen ZT Sq hn6
            go_wp2_with fail
            refine (jh A5 n5 c5 b5 wr (IB.out.grow LD.out.below) Cg.out hc5 (by omega)).mono ?_
            rintro e w6 ⟨_,hgood⟩
            obtain⟨A6,c6,rfl,hD,hU,hc6,amW⟩:=hgood _ _ HT5.out;have acn:=zH (LD.out.drawn hD);have ZR:=hU _ IB.out;rw[amV] at hc6 ZR ⊢;have HU6:=zH ZR;clear hD hgood hU ZR
            go_wp2_with (at_builtin;refine cO rfl _ _ 27 3 rfl Tryz.underlying27 Tryz.gQ acn.out t tO.out rfl y rfl (by omega) ?_;intro b' ZK w7 h7;have H7:=zH h7;clear h7)
            go_roundw
            case rel=>exact⟨t+1,A6,n6,c6,b6,some b',ZK,xs++[y],by omega,by omega,by omega,by omega,by go_num,rfl,rfl,HU6.out,afs.out,H7.out,(by rw[List.length_append,tO.out];rfl:(xs++[y]).length=t+1),aft.out⟩
            case measure=>simp[intOf];omega
          ·obtain rfl:t=X:=by omega
           have hread:=Sn.out;rw[Nat.sub_self] at hread;have GV:iR t b2=some (xs,b5):=by rw[←hread];simp[iR,ny]
           have hcon:=Wt.out;rw[Yf.out,J3 (by rw[Dc.out,Int.toNat_natCast];exact GV)] at hcon;have afu:=zH hcon;have h6:=jg ((LD.out).aB (show _=star (bR 106 a ac W) (bO 3 xa xc xs) by ac_rfl)) jK.out;have H6:=zH h6;clear hread GV hcon h6
           go_wp2_with (at_builtin;refine aO rfl _ _ 73 106 (.agg #[.slice none 0 0]) 24 rfl Tryz.underlying73 Tryz.NP rfl H6.out rfl (.slice (xa.map fun b=>⟨b,0,none⟩) t xc) rfl rfl (by omega) (by simp only[maxLen];omega) ?_;intro b' ZK w7 h7;have H7:=zH h7;clear h7)
           have h8:=mh (F:=emp) (ka:=xa) (kc:=xc) (l:=xs) jK.out (by rw[tO.out];exact H7.out.aB (by rw[aQ];ac_rfl));have H8:=zH h8;clear h8
           go_wp2
           go_roundw
           case rel =>
            refine⟨k+1,A5,n5,c5,b5,some b',ZK,W++[(xa,xc,xs)],by omega,by omega,by omega,by omega,by go_num,rfl,rfl,IB.out,Cg.out,H8.out,(by rw[List.length_append,jK.out];rfl:(W++[(xa,xc,xs)]).length=k+1),(?_:ny ((W++[(xa,xc,xs)]).map fun x=>x.2.2) (fF (M-(k+1)) b5)=fF M r2),(?_:∀ x∈W++[(xa,xc,xs)],x.2.2.length≤n2)⟩
            ·rw[List.map_append];exact afu.out
            ·intro x hx;rcases List.mem_append.1 hx with hx | hx
             ·exact NG.out x hx
             ·rw[List.mem_singleton.1 hx,tO.out];exact hXb
           case measure=>simp[intOf];omega
      ·obtain rfl:k=M:=by omega
       have hfin:=Wt.out;rw[Nat.sub_self] at hfin;have PD:fF k r2=some (W.map (fun x=>x.2.2),b'):=by rw[←hfin];simp[fF,ny]
       have HFI:=zH PD;clear hfin PD
       by_cases hn0:n'=0
       ·subst hn0;have hb0:b'=[]:=List.eq_nil_of_length_eq_zero Sl.out.len;have hok:=Ud H1.out H2.out (by rw[Int.toNat_natCast,HFI.out,hb0]);have hrd:=pF HST.out (fun x hx=>by have:=NG.out x hx;omega) (by rw[jK.out];omega);rw[jK.out] at hrd;have fA:=zH hok;have Gs:=zH hrd;clear hb0 hok hrd
        go_wp2
        go_ret2
        refine⟨HST.out.below,fun _=>?_,fun h=>absurd (by rw[fA.out]) h⟩;rw[fA.out];simp only[List.length_map,jK.out];exact⟨_,ac,rfl,Gs.out,NN HST.out jK.out⟩
       ·have e3:decide ((0:Int)<(n':Int))=true:=by simp;omega
        have hbad:iH b=([],120):=by
         match b',Sl.out.len,HFI.out with
         | [],hl,_=>simp at hl;omega
         | x :: t,_,hf=>exact J5 H1.out H2.out (by rw[Int.toNat_natCast,hf])
        have HBAD:=zH hbad;clear hbad
        go_wp2
        go_ret2
        exact dw HST.out.below HBAD.out
   ·have e1:(hd != 1347179569)=true:=by simpa using aci
    have hbad:=GU H1.out H2.out aci;have HBAD:=zH hbad;clear hbad aci
    go_wp2
    go_ret2
    exact dw HB3.out HBAD.out
end Go.Proofs.YthbbmdnfkkffjaaGreat
namespace Go.Proofs.au
def mD (G:List (List Int)) (b:List Int):List (List Int)×Int :=
 if (iH b).2≠0 then ([],(iH b).2) else match d9 G [] (iH b).1 with
  | none=>([],121)
  | some D=>if D.length=0∨0<(gl D (D.length-1)).length then ([],122) else ((iH b).1,0)
theorem aco {l:List (List Int)} {x:List Int} (h:x∈l):x.length≤(l.map List.length).sum:=by
 induction l with
 | nil=>cases h
 | cons y r ih =>
  rw[List.map_cons,List.sum_cons];rcases List.mem_cons.1 h with rfl | h3
  ·omega
  ·have:=ih h3;omega
theorem Ue {l:List (List Int)} {j:Nat} (h:j<l.length):(gl l j).length≤(l.map List.length).sum:=by
 rw[jq l j h];exact aco (List.getElem_mem h)
end Go.Proofs.au
namespace Go.Proofs.YthbbmdnfkkffjaaGreat
open Go.RowKit Go.Proofs.aC Go.Proofs.au
def Uf (w:World) (r:List (List Int)×Int) (e:Ending) (w':World):Prop :=
 Below w.heap.size w w'∧(r.2=0→∃ A c,e=.returned (.tuple #[.slice A r.1.length c,.int .i64 0])∧um w' A r.1.length r.1∧RP w' A r.1.length) ∧
  (r.2≠0→e=.returned (.tuple #[.slice none 0 0,.int .i64 r.2]))
theorem qc {w w':World} {r:List (List Int)×Int} {k:Int} (hb:Below w.heap.size w w') (h:r=([],k)) (hk:k≠0):Uf w r (.returned (.tuple #[.slice none 0 0,.int .i64 k])) w':=by
 subst h;exact⟨hb,fun h=>absurd h hk,fun _=>rfl⟩
theorem PE (AG:Option Addr) (nG cG:Nat) (G:List (List Int)) (AB:Option Addr) (nB cB:Nat) (b:List Int) (w:World) (hG:um w AG nG G) (hB:pK w AB nB b) (hby:dz b) (hnG:nG≤1000000) (hnB:nB≤400000) (hcB:nB≤cB) (hcm:cB≤9223372036854775807)
  (hsum:G.flatten.length≤1000000) :
  Calls Tryz.prog 60 #[.slice AG nG cG,.slice AB nB cB] w (Uf w (mD G b)):=by
 have HG:=zH hG;have HB:=zH hB
 have Qc:=zH hby
 have yS:=zH hsum;clear hG hB hby hsum
 go_enter Tryz.func60,Tryz.ntmps60
 go_wp2_with fail
 refine (Sj AB nB cB b w HB.out Qc.out (by omega) hcB hcm).mono ?_
 rintro e w1 ⟨hb1,hgood,hbad⟩
 rcases NM b with h0 | ⟨h0,_⟩
 ·obtain⟨AL,cL,rfl,hrd,hcap⟩:=hgood h0;have hsz:=JN h0;rw[HB.out.len] at hsz;obtain⟨l,hl⟩:∃ l,(iH b).1=l:=⟨_,rfl⟩
  have ZU:mD G b=match d9 G [] l with
   | none=>([],121)
   | some D=>if D.length=0∨0<(gl D (D.length-1)).length then ([],122) else (l,0):=by
   unfold mD;rw[if_neg (by simpa using h0),hl]
  rw[hl] at hrd hcap hsz ⊢;have hls:∀ j,j<l.length→(gl l j).length≤100000:=fun j hj=>by have:=Ue hj;omega
  obtain⟨nL,hnL⟩:∃ nL,l.length=nL:=⟨_,rfl⟩;rw[hnL] at hrd hcap hls hsz ⊢;have hnl:nL≤100000:=by omega
  have HD:=zH (Sg AG nG cG G AL nL cL l w1 (HG.out.grow hb1) hrd hcap hnG (by omega) yS.out hls);have Gs:=zH hrd;have HCAP:=zH hcap;have Sr:=zH ZU;have HB1:=zH hb1;have vR:=zH hnL;clear hb1 hgood hbad h0 hrd hcap hsz hl ZU hls hnL
  go_wp2_with fail
  refine HD.out.mono ?_
  rintro e w2 ⟨hb2,hgood,hbad⟩
  have HB2:=zH (HB1.out.trans (hb2.mono HB1.out.size));have amZ:=zH (Gs.out.grow hb2);have aiY:=zH (HCAP.out.grow Gs.out hb2);have jL:=zH hgood;have HBAD:=zH hbad;clear hb2 hgood hbad HD
  cases hd:d9 G [] l with
  | none =>
   have he:=HBAD.out hd;subst he;have HN:=zH (show mD G b=([],121) by rw[Sr.out,hd]);clear hd
   go_wp2
   go_ret2
   exact qc HB2.out HN.out (by decide)
  | some D =>
   obtain⟨a,c,V,rfl,hst,I6,_⟩:=jL.out D hd;have UN:=zH (show mD G b=if D.length=0∨0<(gl D (D.length-1)).length then ([],122) else (l,0) by rw[Sr.out,hd])
   have hlen:=Cb hd;obtain⟨n,hn⟩:∃ n,D.length=n:=⟨_,rfl⟩;have hnn:n≤1000000:=by have:=vR.out;simp at hlen;omega
   have hrd:=I6.tQ hst (by have:=Gs.out.small;omega);have HR:=zH hrd;rw[hn];obtain⟨AA,hAA⟩:∃ AA:Option Addr,(a.map fun b=>⟨b,0,none⟩)=AA:=⟨_,rfl⟩;rw[hAA];have HR2:=zH (show um w2 AA n D by rw[←hn,←hAA];exact HR.out);have HN:=zH hn;clear hd hst I6 hlen hrd hn hAA HR jL HBAD Sr
   by_cases hn0:n=0
   ·subst hn0;have hk:mD G b=([],122):=by rw[UN.out,if_pos (.inl HN.out)]
    have HK:=zH hk;clear hk
    go_wp2
    go_ret2
    exact qc HB2.out HK.out (by decide)
   ·have e0:((n:Int)==0)=false:=by simp;omega
    obtain⟨t,ht⟩:∃ t:Nat,n=t+1:=⟨n-1,by omega⟩;have hwr:IntKind.i64.wrap ((n:Int)-1)=(t:Int):=by rw[show (n:Int)-1=(t:Int) by omega];exact IntWalk.i64_in _ (by omega)
    have htI:(n:Int)-1=(t:Int):=by omega
    obtain⟨ab,ao,hA,hcell⟩:=HR2.out.cells (by omega);subst hA;obtain⟨Aj,cj,d1,_⟩:=hcell t (by omega);obtain⟨ln,hln⟩:∃ ln,(gl D t).length=ln:=⟨_,rfl⟩;rw[hln] at d1
    have hk:mD G b=if 0<ln then ([],122) else (l,0):=by
     rw[UN.out,HN.out,show n-1=t by omega,hln];simp[hn0]
    have HK:=zH hk;have t0:(0:Int)≤(t:Int):=by omega
    have t1:(t:Int)<(n:Int):=by omega
    clear hcell hln hk
    by_cases hl0:0<ln
    ·have e1:decide ((0:Int)<(ln:Int))=true:=by simp;omega
     have NQ:=zH (show mD G b=([],122) by rw[HK.out,if_pos hl0])
     go_wp2
     go_ret2
     exact qc HB2.out NQ.out (by decide)
    ·have e1:decide ((0:Int)<(ln:Int))=false:=by simp;omega
     have NQ:=zH (show mD G b=(l,0) by rw[HK.out,if_neg hl0])
     go_wp2
     go_ret2
     refine⟨HB2.out,fun _=>?_,fun h=>absurd (by rw[NQ.out]) h⟩;rw[NQ.out];exact⟨AL,cL,by rw[vR.out];rfl,by rw[vR.out];exact amZ.out,by rw[vR.out];exact aiY.out⟩
 ·have he:=hbad (by rw[h0];decide);subst he;have HN:=zH (show mD G b=([],120) by unfold mD;rw[if_pos (by rw[h0];decide),h0]);have HB1:=zH hb1;clear hgood hbad h0 hb1
  go_wp2
  go_ret2
  exact qc HB1.out HN.out (by decide)
theorem VZ (AG:Option Addr) (nG cG:Nat) (G:List (List Int)) (AB:Option Addr) (nB cB:Nat) (b:List Int) (w:World) (hG:um w AG nG G) (hB:pK w AB nB b) (hby:dz b) (hnG:nG≤1000000) (hnB:nB≤400000) (hcB:nB≤cB) (hcm:cB≤9223372036854775807)
  (hsum:G.flatten.length≤1000000) :
  Calls Tryz.prog 39 #[.slice AG nG cG,.slice AB nB cB] w fun e w'=>e=.returned (.int .i64 (mD G b).2)∧Below w.heap.size w w':=by
 have HD:=zH (PE AG nG cG G AB nB cB b w hG hB hby hnG hnB hcB hcm hsum);clear hG hB hby hsum
 go_enter Tryz.func39,Tryz.ntmps39
 go_wp2_with fail
 refine HD.out.mono ?_
 rintro e w1 ⟨hb,hgood,hbad⟩
 have HB:=zH hb
 obtain⟨A,n,c,k,rfl,hk⟩:∃ A n c k,e=.returned (.tuple #[.slice A n c,.int .i64 k])∧(mD G b).2=k:=by
  by_cases h:(mD G b).2=0
  ·obtain⟨A,c,he,_⟩:=hgood h;exact⟨A,_,c,0,he,h⟩
  ·exact⟨none,0,0,_,hbad h,rfl⟩
 have HK:=zH hk;clear hb hgood hbad hk HD
 go_wp2
 go_ret
 exact⟨by rw[HK.out];rfl,HB.out⟩
end Go.Proofs.YthbbmdnfkkffjaaGreat

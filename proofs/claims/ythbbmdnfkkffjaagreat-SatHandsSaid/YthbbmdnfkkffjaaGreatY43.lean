/-
  Parts of the proof, joined by program: Byte5, RChk, Kn0, Kn.
-/
import Derived.Test.YthbbmdnfkkffjaaGreatY42
import Derived.Test.YthbbmdnfkkffjaaGreatY41
import Derived.Test.YthbbmdnfkkffjaaGreatY32
import Derived.Test.YthbbmdnfkkffjaaGreatY38
import Derived.Test.YthbbmdnfkkffjaaGreatY01
import Derived.Lib.Hide
set_option maxHeartbeats 8000000
set_option maxRecDepth 100000
namespace Go.Proofs.YthbbmdnfkkffjaaGreat
open Go.RowKit Go.Proofs.aC Go.Proofs.au
theorem mE {a b c d:Int} {r:List Int} (h:a≤127):dN (a :: b :: c :: d :: r)=some (bI a b c d,r):=by show (if a≤127 then _ else _)=_;rw[if_pos h]
theorem tu {a b c d:Int} {r:List Int} (h:127<a):dN (a :: b :: c :: d :: r)=none:=by show (if a≤127 then _ else _)=_;rw[if_neg (by omega)]
theorem GX {b:List Int} (h:b.length<4):dN b=none:=by
 match b,h with
 | [],_=>rfl
 | [_],_=>rfl
 | [_,_],_=>rfl
 | [_,_,_],_=>rfl
 | _ :: _ :: _ :: _ :: _,h=>simp at h;omega
theorem DV {b:List Int} (h:4≤b.length):∃ x y z u r,b=x :: y :: z :: u :: r:=by
 match b,h with
 | x :: y :: z :: u :: r,_=>exact⟨x,y,z,u,r,rfl⟩
 | [],h=>simp at h
 | [_],h=>simp at h
 | [_,_],h=>simp at h
 | [_,_,_],h=>simp at h
theorem V3 {b:List Int} (h:b.length<8):iH b=([],120):=by
 cases h1:dN b with
 | none=>exact yU h1
 | some p =>
  obtain⟨m,r⟩:=p;have:=gu h1;exact tq h1 (GX (by omega))
theorem qd {x y z u:Int} {r:List Int} (hb:dz (x :: y :: z :: u :: r)) (h:¬ (x=80∧y=76∧z=84∧u=49)):iH (x :: y :: z :: u :: r)=([],120):=by
 have h1:=hb x (by simp);have h2:=hb y (by simp);have h3:=hb z (by simp);have h4:=hb u (by simp)
 by_cases hx:x≤127
 ·have ht:=mE (b:=y) (c:=z) (d:=u) (r:=r) hx
  cases h5:dN r with
  | none=>exact tq ht h5
  | some p=>exact GU ht h5 (fun e=>h (by unfold bI at e;omega))
 ·exact yU (tu (by omega))
theorem V4 {w:World} {b o n:Nat} {xs:List Int} (h:pK w (some ⟨b,o,none⟩) n xs):pK w (some ⟨b,o+4,none⟩) (n-4) (xs.drop 4):=by
 have hl:=h.len;refine⟨by rw[List.length_drop];omega,by have:=h.small;omega,fun hp=>⟨b,o+4,rfl,fun j hj=>?_⟩⟩;obtain⟨b',o',e,hc⟩:=h.cells (by omega);obtain⟨rfl,rfl⟩:b=b'∧o=o':=by simpa using e
 have:=hc (j+4) (by omega);rw[show o+4+j=o+(j+4) by omega,this];simp[gi,List.getD_eq_getElem?_getD,List.getElem?_drop,Nat.add_comm]
theorem PG (A:Option Addr) (n c:Nat) (b:List Int) (w:World) (hr:pK w A n b) (hb:dz b) (hn:n≤1000000) (hc:n≤c) (hcm:c≤9223372036854775807) :
  Calls Tryz.prog 57 #[.slice A n c] w (LA w b):=by
 have HR:=zH hr;have HB:=zH hb;have hd0:decide (4194304<(n:Int))=false:=by simp;omega
 by_cases hn8:n<8
 ·have hd1:decide ((n:Int)<8)=true:=by simp;omega
  have hbad:=V3 (b:=b) (by have:=hr.len;omega);have HBAD:=zH hbad;clear hr hb hbad
  go_enter Tryz.func57,Tryz.ntmps57
  go_wp2
  go_ret2
  exact dw (Below.refl _ _) HBAD.out
 have hd1:decide ((n:Int)<8)=false:=by simp;omega
 obtain⟨x,y,z,u,r,rfl⟩:=DV (b:=b) (by have:=hr.len;omega);obtain⟨ab,ao,rfl,hcell⟩:=hr.cells (by omega);have c0:w.cell? ⟨ab,ao,none⟩=some (.int .u8 x):=hcell 0 (by omega);have c1:w.cell? ⟨ab,ao+1,none⟩=some (.int .u8 y):=hcell 1 (by omega);have c2:w.cell? ⟨ab,ao+2,none⟩=some (.int .u8 z):=hcell 2 (by omega);have c3:w.cell? ⟨ab,ao+3,none⟩=some (.int .u8 u):=hcell 3 (by omega);have n0:(0:Int)<(n:Int):=by omega
 have n1:(1:Int)<(n:Int):=by omega
 have n2':(2:Int)<(n:Int):=by omega
 have n3:(3:Int)<(n:Int):=by omega
 have hlen:=hr.len;have HLEN:=zH hlen;clear hr hcell hlen
 by_cases m0:x≠80
 ·have f0:(x != 80)=true:=by simpa using m0
  have hbad:=qd hb (fun h=>m0 h.1);have HBAD:=zH hbad;clear hb hbad m0
  go_enter Tryz.func57,Tryz.ntmps57
  go_wp2
  go_ret2
  exact dw (Below.refl _ _) HBAD.out
 have m0:x=80:=Classical.not_not.1 m0;have f0:(x != 80)=false:=by simpa using m0
 by_cases m1:y≠76
 ·have f1:(y != 76)=true:=by simpa using m1
  have hbad:=qd hb (fun h=>m1 h.2.1);have HBAD:=zH hbad;clear hb hbad m1
  go_enter Tryz.func57,Tryz.ntmps57
  go_wp2
  go_ret2
  exact dw (Below.refl _ _) HBAD.out
 have m1:y=76:=Classical.not_not.1 m1;have f1:(y != 76)=false:=by simpa using m1
 by_cases m2:z≠84
 ·have f2:(z != 84)=true:=by simpa using m2
  have hbad:=qd hb (fun h=>m2 h.2.2.1);have HBAD:=zH hbad;clear hb hbad m2
  go_enter Tryz.func57,Tryz.ntmps57
  go_wp2
  go_ret2
  exact dw (Below.refl _ _) HBAD.out
 have m2:z=84:=Classical.not_not.1 m2;have f2:(z != 84)=false:=by simpa using m2
 by_cases m3:u≠49
 ·have f3:(u != 49)=true:=by simpa using m3
  have hbad:=qd hb (fun h=>m3 h.2.2.2);have HBAD:=zH hbad;clear hb hbad m3
  go_enter Tryz.func57,Tryz.ntmps57
  go_wp2
  go_ret2
  exact dw (Below.refl _ _) HBAD.out
 have m3:u=49:=Classical.not_not.1 m3;have f3:(u != 49)=false:=by simpa using m3
 obtain⟨x2,y2,z2,u2,r2,hr2⟩:=DV (b:=r) (by have:=HLEN.out;simp only[List.length_cons] at this;omega);subst m0 m1 m2 m3;clear f0 f1 f2 f3;have hbr:dz r:=fun v hv=>hb v (by simp[hv]);have hb2:=hbr x2 (by rw[hr2];simp);have ZP:dz r2:=fun v hv=>hbr v (by rw[hr2];simp[hv]);have h1:dN (80 :: 76 :: 84 :: 49 :: r)=some (1347179569,r):=mE (by omega);obtain⟨n2,hn2⟩:∃ n2,r2.length=n2:=⟨_,rfl⟩;have hnn:n-4-4=n2:=by have:=HLEN.out;rw[hr2] at this;simp only[List.length_cons] at this;omega
 obtain⟨M,hM⟩:∃ M:Nat,bI x2 y2 z2 u2=M:=⟨(bI x2 y2 z2 u2).toNat,by
  have:=hbr y2 (by rw[hr2];simp);have:=hbr z2 (by rw[hr2];simp);have:=hbr u2 (by rw[hr2];simp);unfold bI
  omega⟩
 have hMb:M≤4294967295:=by
  have:=hbr y2 (by rw[hr2];simp);have:=hbr z2 (by rw[hr2];simp);have:=hbr u2 (by rw[hr2];simp);unfold bI at hM;omega
 have hfuel:fF M r2=none→iH (80 :: 76 :: 84 :: 49 :: r)=([],120):=fun h=>by
  by_cases hx:x2≤127
  ·have h2:dN r=some ((M:Int),r2):=by rw[hr2,mE hx,hM]
   exact Ce h1 h2 (by rw[Int.toNat_natCast];exact h)
  ·exact tq h1 (by rw[hr2];exact tu (by omega))
 have hhigh:∀ l t,fF M r2=some (l,t)→x2≤127:=fun l t h=>by
  have:=(ni _ _ _ _ h).1;have:=hbr y2 (by rw[hr2];simp);have:=hbr z2 (by rw[hr2];simp);have:=hbr u2 (by rw[hr2];simp);unfold bI at hM;omega
 have aiZ:∀ l,fF M r2=some (l,[])→iH (80 :: 76 :: 84 :: 49 :: r)=(l,0):=fun l h=>by
  have h2:dN r=some ((M:Int),r2):=by rw[hr2,mE (hhigh _ _ h),hM]
  exact Ud h1 h2 (by rw[Int.toNat_natCast];exact h)
 have hleft:∀ l v t,fF M r2=some (l,v :: t)→iH (80 :: 76 :: 84 :: 49 :: r)=([],120):=fun l v t h=>by
  have h2:dN r=some ((M:Int),r2):=by rw[hr2,mE (hhigh _ _ h),hM]
  exact J5 h1 h2 (by rw[Int.toNat_natCast];exact h)
 have CW:=zH hfuel;have ai0:=zH aiZ;have adq:=zH hleft;have HR2:=zH hr2;have HM:=zH hM;have Qt:=zH hbr;have afo:=zH ZP;have HU0:=zH (show pK w (some ⟨ab,ao+4,none⟩) (n-4) r from V4 HR.out);have h4n:(4:Int)≤(n:Int):=by omega
 have h4c:(4:Int)<(c:Int):=by omega
 have h4cn:4<c:=by omega
 obtain⟨b0,hb0⟩:∃ b0,(80 :: 76 :: 84 :: 49 :: r:List Int)=b0:=⟨_,rfl⟩;rw[hb0] at CW ai0 adq ⊢;clear hb hbr hb2 ZP h1 hfuel hhigh aiZ hleft hr2 hM hn2 hb0
 go_enter Tryz.func57,Tryz.ntmps57
 go_wp2_with fail
 refine (p9 (some ⟨ab,ao+4,none⟩) (n-4) (c-4) r w HU0.out Qt.out (by omega) (by omega)).mono ?_
 rintro e w3 ⟨_,hgood⟩
 obtain⟨A3,c3',rfl,hD3,hU3,hc3,amP⟩:=hgood _ _ _ _ _ HR2.out;have HB3:=zH (hD3.below w.heap.size);have Sk:=hU3 _ HU0.out;rw[hnn] at hc3 Sk ⊢;rw[HM.out];have HU3:=zH Sk;clear hD3 hgood hU3 Sk;clear c0 c1 c2 c3
 go_wp2
 go_loopw [0,6,7] (fun v0 v6 v7 wr=>∃ (k:Nat) (A':Option Addr) (n' c':Nat) (b':List Int) (a:Option Nat) (ac:Nat) (W:vk),k≤M∧n'+4*k≤n2∧n'≤c'∧c'≤c3'∧v7=.int .i64 k∧v0=.slice A' n' c'∧v6=.slice (a.map fun b=>⟨b,0,none⟩) k ac∧Hid (pK w A' n' b')∧Hid (dz b') ∧
  Hid (St w.heap.size w wr (star (bR 27 a ac W) emp))∧Hid (W.length=k)∧Hid (ny (W.map fun x=>x.2.2) (fF (M-k) b')=fF M r2)∧Hid (∀ x∈W,x.2.2.length≤n2)) (fun _ _ v7 _=>M-(intOf v7).toNat)
 case atStart=>exact⟨0,A3,n2,c3',r2,none,0,[],Nat.zero_le _,by omega,hc3,Nat.le_refl _,rfl,rfl,rfl,HU3.out,afo.out,(by rw[nI,aQ];exact⟨HB3.out,HB3.out.size,Sat.emp _ _⟩:St w.heap.size w w3 (star (bR 27 none 0 []) emp)),(rfl:([]:vk).length=0),(AR _:ny [] (fF (M-0) r2)=fF M r2),(fun x hx=>absurd hx (by simp):∀ x∈([]:vk),x.2.2.length≤n2)⟩
 case round =>
  obtain⟨k,A',n',c',b',a,ac,W,hk,hn',hc',afp,rfl,rfl,rfl,Sl,Qc,HST,jK,Wt,NG⟩:=hrel
  by_cases hkM:k<M
  ·have amQ:(k:Int)<(M:Int):=by omega
   have hMk:M-k=(M-(k+1))+1:=by omega
   have Yf:=zH hMk;clear hMk
   by_cases Tk:n'<4
   ·have hbad:=CW.out (by rw[←Wt.out,Yf.out];exact iJ (Cc (GX (by rw[Sl.out.len];exact Tk))));have HBAD:=zH hbad;clear hbad
    go_wp2_with fail
    refine (p9 A' n' c' b' wr (Sl.out.grow HST.out.below) Qc.out hc' (by omega)).mono ?_
    rintro e w4 ⟨hbad,_⟩
    obtain⟨rfl,hD⟩:=hbad Tk;have HB4:=zH (HST.out.below.trans (hD.below _));clear hD hbad
    go_wp2
    go_ret2
    exact dw HB4.out HBAD.out
   obtain⟨x4,y4,z4,u4,b2,hb2⟩:=DV (b:=b') (by rw[Sl.out.len];omega);obtain⟨hx4,am0⟩:=Qc.out x4 (by rw[hb2];simp);obtain⟨hy4,am1⟩:=Qc.out y4 (by rw[hb2];simp);obtain⟨hz4,am2⟩:=Qc.out z4 (by rw[hb2];simp);obtain⟨hu4,am3⟩:=Qc.out u4 (by rw[hb2];simp);obtain⟨X,hX⟩:∃ X:Nat,bI x4 y4 z4 u4=X:=⟨(bI x4 y4 z4 u4).toNat,by unfold bI;omega⟩;have hXb:X≤4294967295:=by unfold bI at hX;omega
   obtain⟨n4,afv⟩:∃ n4,b2.length=n4:=⟨_,rfl⟩;have afq:n'-4=n4:=by have:=Sl.out.len;rw[hb2] at this;simp only[List.length_cons] at this;omega
   have ZQ:dz b2:=fun v hv=>Qc.out v (by rw[hb2];simp[hv])
   have adr:n4<4*X→Gv b'=none:=fun h=>by
    by_cases hx:x4≤127
    ·rw[LB (hb2▸mE hx),hX,Int.toNat_natCast];exact CV (by rw[afv];exact h)
    ·exact Cc (hb2▸tu (by omega))
   have hrow:4*X≤n4→Gv b'=iR X b2:=fun h=>by
    have hx:x4≤127:=by unfold bI at hX;omega
    rw[LB (hb2▸mE hx),hX,Int.toNat_natCast]
   have ai1:=zH adr;have Dc:=zH hrow;have HB2:=zH hb2;have HX:=zH hX;have HN4:=zH afv;have afr:=zH ZQ;clear hx4 am0 hy4 am1 hz4 am2 hu4 am3 adr hrow hb2 hX afv ZQ
   go_wp2_with fail
   refine (p9 A' n' c' b' wr (Sl.out.grow HST.out.below) Qc.out hc' (by omega)).mono ?_
   rintro e w4 ⟨_,hgood⟩
   obtain⟨A4,c4,rfl,hD,hU,hc4,amR⟩:=hgood _ _ _ _ _ HB2.out;have LC:=zH (HST.out.drawn hD);have ZR:=hU _ Sl.out;rw[afq] at hc4 ZR ⊢;rw[HX.out];have HU4:=zH ZR;clear hD hgood hU ZR
   by_cases hxn:(n4:Int)/4<X
   ·have e2:decide ((n4:Int)/4<(X:Int))=true:=by simpa using hxn
    have hbad:=CW.out (by rw[←Wt.out,Yf.out];exact iJ (ai1.out (by omega)));have HBAD:=zH hbad;clear hbad
    go_wp2
    go_ret2
    exact dw LC.out.below HBAD.out
   ·have e2:decide ((n4:Int)/4<(X:Int))=false:=by simpa using hxn
    have hX4:4*X≤n4:=by omega
    have aiU:n4+4*(k+1)≤n2:=by omega
    have HRW:=zH (Dc.out hX4)
    go_wp2
    have H5:=zH (show St w.heap.size w w4 (star (bO 3 none 0 []) (bR 27 a ac W)) from⟨LC.out.below,LC.out.base,(LC.out.aB (aQ _)).sat.uh _ _⟩)
    go_loopw [0,11,12] (fun v0 v11 v12 wr=>∃ (t:Nat) (A':Option Addr) (n' c':Nat) (b':List Int) (xa:Option Nat) (xc:Nat) (xs:List Int),t≤X∧n'+4*t=n4∧n'≤c'∧c'≤c3'∧v12=.int .i64 t∧v0=.slice A' n' c'∧v11=.slice (xa.map fun b=>⟨b,0,none⟩) t xc∧Hid (pK w A' n' b')∧Hid (dz b') ∧
     Hid (St w.heap.size w wr (star (bO 3 xa xc xs) (bR 27 a ac W)))∧Hid (xs.length=t)∧Hid (ny xs (iR (X-t) b')=iR X b2)) (fun _ _ v12 _=>X-(intOf v12).toNat)
    case atStart=>exact⟨0,A4,n4,c4,b2,none,0,[],Nat.zero_le _,by omega,hc4,by omega,rfl,rfl,rfl,HU4.out,afr.out,H5.out,(rfl:([]:List Int).length=0),(AR _:ny [] (iR (X-0) b2)=iR X b2)⟩
    case round =>
     obtain⟨t,A5,n5,c5,b5,xa,xc,xs,htX,hn5,hc5,amS,rfl,rfl,rfl,IB,Cg,LD,tO,Sn⟩:=hrel
     by_cases amT:t<X
     ·have amU:(t:Int)<(X:Int):=by omega
      have hXt:X-t=(X-(t+1))+1:=by omega
      have HXT:=zH hXt;clear hXt;obtain⟨x6,y6,z6,u6,b6,hb6⟩:=DV (b:=b5) (by rw[IB.out.len];omega);obtain⟨hx6,am4⟩:=Cg.out x6 (by rw[hb6];simp);obtain⟨Ih,am5⟩:=Cg.out y6 (by rw[hb6];simp);obtain⟨hz6,am6⟩:=Cg.out z6 (by rw[hb6];simp);obtain⟨hu6,am7⟩:=Cg.out u6 (by rw[hb6];simp);obtain⟨v,hv⟩:∃ v,bI x6 y6 z6 u6=v:=⟨_,rfl⟩;have hv0:0≤v:=by unfold bI at hv;omega
      have hhi:2147483647<v→dN b5=none:=fun h=>hb6▸tu (by unfold bI at hv;omega);have hlo:v≤2147483647→dN b5=some (v,b6):=fun h=>by rw[hb6,mE (by unfold bI at hv;omega),hv]
      have HHI:=zH hhi;have HLO:=zH hlo;have HB6:=zH hb6;have HV:=zH hv;have ZT:dz b6:=fun v hv=>Cg.out v (by rw[hb6];simp[hv]);have afs:=zH ZT;clear hx6 am4 Ih am5 hz6 am6 hu6 am7 hhi hlo hb6 hv ZT
      go_wp2_with fail
      refine (p9 A5 n5 c5 b5 wr (IB.out.grow LD.out.below) Cg.out hc5 (by omega)).mono ?_
      rintro e w6 ⟨_,hgood⟩
      obtain⟨A6,c6,rfl,hD,hU,hc6,amW⟩:=hgood _ _ _ _ _ HB6.out;have acn:=zH (LD.out.drawn hD);have HU6:=zH (hU _ IB.out);rw[HV.out];clear hD hgood hU
      by_cases hvt:2147483647<v
      ·have e3:decide (2147483647<v)=true:=by simpa using hvt
       have hbad:=CW.out (by rw[←Wt.out,Yf.out];exact iJ (by rw[HRW.out,←Sn.out,HXT.out];exact vE (HHI.out hvt)));have HBAD:=zH hbad;clear hbad
       go_wp2
       go_ret2
       exact dw acn.out.below HBAD.out
      ·have e3:decide (2147483647<v)=false:=by simpa using hvt
       have Sq:=Sn.out;rw[HXT.out,J4 (HLO.out (by omega))] at Sq;have aft:=zH Sq;clear Sq
       go_wp2_with (at_builtin;refine cO rfl _ _ 27 3 rfl Tryz.underlying27 Tryz.gQ acn.out t tO.out rfl v rfl (by omega) ?_;intro b' ZK w7 h7;have H7:=zH h7;clear h7)
       go_roundw
       case rel=>exact⟨t+1,A6,n5-4,c6,b6,some b',ZK,xs++[v],by omega,by omega,by omega,by omega,by go_num,rfl,rfl,HU6.out,afs.out,H7.out,(by rw[List.length_append,tO.out];rfl:(xs++[v]).length=t+1),aft.out⟩
       case measure=>simp[intOf];omega
     ·obtain rfl:t=X:=by omega
      have hread:=Sn.out;rw[Nat.sub_self] at hread;have GV:iR t b2=some (xs,b5):=by rw[←hread];simp[iR,ny]
      have hcon:=Wt.out;rw[Yf.out,J3 (by rw[HRW.out];exact GV)] at hcon;have afu:=zH hcon;have h6:=jg ((LD.out).aB (show _=star (bR 27 a ac W) (bO 3 xa xc xs) by ac_rfl)) jK.out;have H6:=zH h6;clear hread GV hcon h6
      go_wp2_with (at_builtin;refine aO rfl _ _ 37 27 (.slice none 0 0) 24 rfl Tryz.underlying37 Tryz.jB rfl H6.out rfl (.slice (xa.map fun b=>⟨b,0,none⟩) t xc) rfl rfl (by omega) (by simp only[maxLen];omega) ?_;intro b' ZK w7 h7;have H7:=zH h7;clear h7)
      have h8:=mh (F:=emp) (ka:=xa) (kc:=xc) (l:=xs) jK.out (by rw[tO.out];exact H7.out.aB (by rw[aQ];ac_rfl));have H8:=zH h8;clear h8
      go_wp2
      go_roundw
      case rel =>
       refine⟨k+1,A5,n5,c5,b5,some b',ZK,W++[(xa,xc,xs)],by omega,by omega,by omega,by omega,by go_num,rfl,rfl,IB.out,Cg.out,H8.out,(by rw[List.length_append,jK.out];rfl:(W++[(xa,xc,xs)]).length=k+1),(?_:ny ((W++[(xa,xc,xs)]).map fun x=>x.2.2) (fF (M-(k+1)) b5)=fF M r2),(?_:∀ x∈W++[(xa,xc,xs)],x.2.2.length≤n2)⟩
       ·rw[List.map_append];exact afu.out
       ·intro x hx;rcases List.mem_append.1 hx with hx | hx
        ·exact NG.out x hx
        ·rw[List.mem_singleton.1 hx,tO.out];omega
      case measure=>simp[intOf];omega
  ·obtain rfl:k=M:=by omega
   have hfin:=Wt.out;rw[Nat.sub_self] at hfin;have PD:fF k r2=some (W.map (fun x=>x.2.2),b'):=by rw[←hfin];simp[fF,ny]
   have HFI:=zH PD;clear hfin PD
   by_cases hn0:n'=0
   ·subst hn0;have hb0:b'=[]:=List.eq_nil_of_length_eq_zero Sl.out.len;have hok:=ai0.out _ (by rw[HFI.out,hb0]);have hrd:=pF HST.out (fun x hx=>by have:=NG.out x hx;omega) (by rw[jK.out];omega);rw[jK.out] at hrd;have fA:=zH hok;have Gs:=zH hrd;clear hb0 hok hrd
    go_wp2
    go_ret2
    refine⟨HST.out.below,fun _=>?_,fun h=>absurd (by rw[fA.out]) h⟩;rw[fA.out];simp only[List.length_map,jK.out];exact⟨_,ac,rfl,Gs.out,NN HST.out jK.out⟩
   ·have e3:decide ((0:Int)<(n':Int))=true:=by simp;omega
    have hbad:iH b0=([],120):=by
     match b',Sl.out.len,HFI.out with
     | [],hl,_=>simp at hl;omega
     | x :: t,_,hf=>exact adq.out _ _ _ hf
    have HBAD:=zH hbad;clear hbad
    go_wp2
    go_ret2
    exact dw HST.out.below HBAD.out
theorem Sv (AG:Option Addr) (nG cG:Nat) (G:List (List Int)) (AB:Option Addr) (nB cB:Nat) (b:List Int) (w:World) (hG:um w AG nG G) (hB:pK w AB nB b) (hby:dz b) (hnG:nG≤100000) (hnB:nB≤400000) (hcB:nB≤cB) (hcm:cB≤9223372036854775807)
  (hsum:G.flatten.length≤100000) :
  Calls Tryz.prog 32 #[.slice AG nG cG,.slice AB nB cB] w fun e w'=>e=.returned (.int .i64 (mD G b).2)∧Below w.heap.size w w':=by
 have HG:=zH hG;have HB:=zH hB
 have Qc:=zH hby
 have yS:=zH hsum;clear hG hB hby hsum
 go_enter Tryz.func32,Tryz.ntmps32
 go_wp2_with fail
 refine (PG AB nB cB b w HB.out Qc.out (by omega) hcB hcm).mono ?_
 rintro e w1 ⟨hb1,hgood,hbad⟩
 rcases NM b with h0 | ⟨h0,_⟩
 ·obtain⟨AL,cL,rfl,hrd,_⟩:=hgood h0;have hsz:=JN h0;rw[HB.out.len] at hsz;obtain⟨l,hl⟩:∃ l,(iH b).1=l:=⟨_,rfl⟩
  have ZU:mD G b=match d9 G [] l with
   | none=>([],121)
   | some D=>if D.length=0∨0<(gl D (D.length-1)).length then ([],122) else (l,0):=by
   unfold mD;rw[if_neg (by simpa using h0),hl];rfl
  rw[hl] at hrd hsz ⊢;have hls:∀ j,j<l.length→(gl l j).length≤100000:=fun j hj=>by have:=Ue hj;omega
  obtain⟨nL,hnL⟩:∃ nL,l.length=nL:=⟨_,rfl⟩;rw[hnL] at hrd hls hsz ⊢;have hnl:nL≤100000:=by omega
  have HD:=zH (Py AG nG cG G AL nL cL l w1 (HG.out.grow hb1) hrd hnG hnl yS.out hls);have Sr:=zH ZU;have HB1:=zH hb1;have vR:=zH hnL;clear hb1 hgood hbad h0 hrd hsz hl ZU hls hnL
  go_wp2_with fail
  refine HD.out.mono ?_
  rintro e w2 ⟨hb2,hgood,hbad⟩
  have HB2:=zH (btr HB1.out hb2);have jL:=zH hgood;have HBAD:=zH hbad;clear hb2 hgood hbad HD
  cases hd:d9 G [] l with
  | none =>
   have he:=HBAD.out hd;subst he;have HN:=zH (show mD G b=([],121) by rw[Sr.out,hd]);clear hd
   go_wp2
   go_ret
   exact⟨by rw[HN.out];rfl,HB2.out⟩
  | some D =>
   obtain⟨AA,c,rfl,hrd,_⟩:=jL.out D hd;have UN:=zH (show mD G b=if D.length=0∨0<(gl D (D.length-1)).length then ([],122) else (l,0) by rw[Sr.out,hd])
   have hlen:=Cb hd;obtain⟨n,hn⟩:∃ n,D.length=n:=⟨_,rfl⟩;have hnn:n≤100000:=by have:=vR.out;simp at hlen;omega
   rw[hn] at hrd ⊢;have HR2:=zH hrd;have HN:=zH hn;clear hd hlen hrd hn jL HBAD Sr
   by_cases hn0:n=0
   ·subst hn0;have HK:=zH (show mD G b=([],122) by rw[UN.out,if_pos (.inl HN.out)])
    go_wp2
    go_ret
    exact⟨by rw[HK.out];rfl,HB2.out⟩
   ·have e0:((n:Int)==0)=false:=by simp;omega
    obtain⟨t,ht⟩:∃ t:Nat,n=t+1:=⟨n-1,by omega⟩;have htI:(n:Int)-1=(t:Int):=by omega
    obtain⟨ab,ao,hA,hcell⟩:=HR2.out.cells (by omega);subst hA;obtain⟨Aj,cj,d1,_⟩:=hcell t (by omega);obtain⟨ln,hln⟩:∃ ln,(gl D t).length=ln:=⟨_,rfl⟩;rw[hln] at d1
    have hk:mD G b=if 0<ln then ([],122) else (l,0):=by
     rw[UN.out,HN.out,show n-1=t by omega,hln];simp[hn0]
    have HK:=zH hk;have t0:(0:Int)≤(t:Int):=by omega
    have t1:(t:Int)<(n:Int):=by omega
    clear hcell hln hk
    by_cases hl0:0<ln
    ·have e1:decide ((0:Int)<(ln:Int))=true:=by simp;omega
     have NQ:=zH (show mD G b=([],122) by rw[HK.out,if_pos hl0])
     go_wp2
     go_ret
     exact⟨by rw[NQ.out];rfl,HB2.out⟩
    ·have e1:decide ((0:Int)<(ln:Int))=false:=by simp;omega
     have NQ:=zH (show mD G b=(l,0) by rw[HK.out,if_neg hl0])
     go_wp2
     go_ret
     exact⟨by rw[NQ.out];rfl,HB2.out⟩
 ·have he:=hbad (by rw[h0];decide);subst he;have HN:=zH (show mD G b=([],120) by unfold mD;rw[if_pos (by rw[h0];decide),h0]);have HB1:=zH hb1;clear hgood hbad h0 hb1
  go_wp2
  go_ret
  exact⟨by rw[HN.out];rfl,HB1.out⟩
end Go.Proofs.YthbbmdnfkkffjaaGreat
namespace Go.Proofs.YthbbmdnfkkffjaaGreat
open Go.Proofs.aA
open Go.Proofs.au hiding SM
def A1:aA.SM:=(K0.add [1,2]).1
def A2:aA.SM:=(A1.add [-1,2]).1
theorem cl1:Gc [1,2]:=⟨by decide,by decide⟩
theorem cl2:Gc [-1,2]:=⟨by decide,by decide⟩
theorem cl3:Gc [1,-2]:=⟨by decide,by decide⟩
theorem cl4:Gc [-1,-2]:=⟨by decide,by decide⟩
theorem add1:fU K0 [1,2]=(A1,0):=by
 unfold fU;rw[if_pos (by decide +kernel),show bQ [1,2]=[1,2] by decide +kernel,if_pos (by decide +kernel)];rfl
theorem add2:fU A1 [-1,2]=(A2,0):=by
 unfold fU;rw[if_pos (by decide +kernel),show bQ [-1,2]=[-1,2] by decide +kernel,if_pos (by decide +kernel)];rfl
theorem am8:fU A2 [1,-2]=(K1,0):=by
 unfold fU;rw[if_pos (by decide +kernel),show bQ [1,-2]=[1,-2] by decide +kernel,if_pos (by decide +kernel)];rfl
theorem am9:bK K1 []=(K2,1,0):=by
 have h:=k2;unfold bK;rw[if_pos (by decide +kernel),←h];rfl
theorem ana:bK K2 [-1]=(K3,2,0):=by
 have h:=k3;unfold bK;rw[if_pos (by decide +kernel),←h];rfl
theorem anb:fU K3 [-1,-2]=(K4,0):=by
 unfold fU;rw[if_pos (by decide +kernel),show bQ [-1,-2]=[-1,-2] by decide +kernel,if_pos (by decide +kernel)];rfl
theorem anc:bK K4 []=(K5,2,0):=by
 have h:=k5;unfold bK;rw[if_pos (by decide +kernel),←h];rfl
theorem ane:bK K5 [0]=(K5,0,130):=by
 unfold bK;rw[if_neg (by decide +kernel)]
theorem anf:fU K5 [1,-1]=(K5,112):=by
 unfold fU;rw[if_neg (by decide +kernel),show dx [1,-1]=112 by decide +kernel]
theorem zs0:Zs 0 K0:=(BL 1000 100).1
theorem zs1:Zs 0 A1:=(zs0.add cl1).2.zs
theorem zs2:Zs 0 A2:=(zs1.add cl2).2.zs
theorem zs3:Zs 0 K1:=(zs2.add cl3).2.zs
theorem sv1:BI K1 []∧Zs 1 K2∧Answer [] K1 (K1.solve []).1 (K1.solve []).2.1 (K1.solve []).2.2:=zs3.solve (by omega) (by simp) (by simp)
theorem sv2:BI K2 [-1]∧Zs 2 K3∧Answer [-1] K2 (K2.solve [-1]).1 (K2.solve [-1]).2.1 (K2.solve [-1]).2.2:=sv1.2.1.solve (by omega) (by simp) (by simp)
theorem zs4:Zs 2 K4:=(sv2.2.1.add cl4).2.zs
theorem sv3:BI K4 []∧Zs 3 K5∧Answer [] K4 (K4.solve []).1 (K4.solve []).2.1 (K4.solve []).2.2:=zs4.solve (by omega) (by simp) (by simp)
theorem GY:K5.given=[[1,2],[-1,2],[1,-2],[-1,-2]]:=by decide +kernel
theorem acp:K5.core=[]:=by decide +kernel
theorem CX {m:Nat} {l:List Int} (h:l.all (fun x=>!(decide (x< -1))||decide ((-2-x).toNat<m))=true):sU m l:=fun x hx hlt=>by
 have:=List.all_eq_true.1 h x hx;simp only[Bool.or_eq_true,Bool.not_eq_true',decide_eq_false_iff_not,decide_eq_true_eq] at this;rcases this with k | k
 ·exact absurd hlt k
 ·exact k
theorem ai2:aiA K5:=by
 refine⟨acp,fun _=>⟨by decide +kernel,fun x hx=>?_,by decide +kernel,CX (by decide +kernel)⟩,by decide +kernel,fun _=>by decide +kernel⟩;have h:K5.steps.all (fun l=>decide (l.length≤1000000)&&l.all (fun x=>!(decide (x< -1))||decide ((-2-x).toNat<K5.steps.length)))=true:=by decide +kernel
 have h2:=List.all_eq_true.1 h x hx;simp only[Bool.and_eq_true,decide_eq_true_eq] at h2;exact⟨h2.1,CX h2.2⟩
def bts:List Int:=(iI K5).1
theorem tr2:(iI K5).2=0:=by decide +kernel
theorem J6:dz bts:=by
 have h:bts.all (fun x=>decide (0≤x)&&decide (x<256))=true:=by decide +kernel
 intro x hx;have h2:=List.all_eq_true.1 h x hx;simp only[Bool.and_eq_true,decide_eq_true_eq] at h2;omega
theorem LG:bts.length≤400000:=by decide +kernel
theorem acr:(mD K5.given bts).2=0:=by decide +kernel
end Go.Proofs.YthbbmdnfkkffjaaGreat
namespace Go.Proofs.YthbbmdnfkkffjaaGreat
open Go.RowKit Go.Proofs.aC Go.Proofs.aA
open Go.Proofs.au hiding SM
section
variable {B:Nat} {w0 w:World} {q:Nat} {S:aA.SM} {F:HP}
theorem bL.stF (h:bL B w0 w q S F):∃ X,St B w0 w (star F X):=by
 obtain⟨p,M,h1,_⟩:=h;exact⟨_,h1.st.aB (show _=star F (star (stars (parts p M)) (pt q 67 [.pointer (some ⟨p,0,none⟩)])) by ac_rfl)⟩
theorem bL.rdI {t:TypeId} {a:Option Nat} {c:Nat} {xs:List Int} (h:bL B w0 w q S (star (bO t a c xs) F)) (hs:xs.length≤1000000):Rd w (a.map fun b=>⟨b,0,none⟩) xs.length xs:=by
 obtain⟨X,k⟩:=h.stF;exact St.rd (k.aB (gJ _ _ _)) (by omega)
theorem bL.rdY {t:TypeId} {a:Option Nat} {c:Nat} {xs:List Int} (h:bL B w0 w q S (star (Ba t a c xs) F)) (hs:xs.length≤1000000):pK w (a.map fun b=>⟨b,0,none⟩) xs.length xs:=by
 obtain⟨X,k⟩:=h.stF;exact St.rdB (k.aB (gJ _ _ _)) (by omega)
theorem bL.below (h:bL B w0 w q S F):Below B w0 w:=by obtain⟨p,M,h1,_⟩:=h;exact h1.st.below
theorem bL.frame {G:HP} (h:bL B w0 w q S F) (e:F=G):bL B w0 w q S G:=e▸h
theorem bL.built (h:bL B w0 w q S F) (xs:List Int) (hp:0<xs.length) (hs:xs.length≤1000000):bL B w0 (w.alloc (.cells (ints xs).toArray 3)) q S (star (bO 3 (some w.heap.size) xs.length xs) F):=by
 have h1:St w.heap.size w (w.alloc (.cells (ints xs).toArray 3)) (star (pt w.heap.size 3 (ints xs)) emp):=by
  have:=(St.start w).iC (ints xs).toArray 3;simpa using this
 have h2:St w.heap.size w (w.alloc (.cells (ints xs).toArray 3)) (bO 3 (some w.heap.size) xs.length xs):=by
  have h3:St w.heap.size w (w.alloc (.cells (ints xs).toArray 3)) (star (sl (some w.heap.size) xs.length xs.length 3 1 (ints xs)) emp):=⟨h1.below,h1.base,h1.sat.pO (by simp[ints]) (Nat.le_refl _) (by unfold maxLen;omega) (by simp[ints]) (by rw[Nat.mul_one,List.take_of_length_le (by simp[ints])])⟩;rw[aQ] at h3;exact h3
 exact h.nest h2
theorem bL.AU (h:bL B w0 w q S F) (xs:List Int) (n:Nat) (hn:xs.length=n) (hp:0<n) (hs:n≤200000) (hok:dx xs=0→Rw S (bQ xs)) (R:aA.SM×Int) (hR:fU S xs=R) :
  Calls Tryz.prog 18 #[.pointer (some ⟨q,0,none⟩),.slice (some ⟨w.heap.size,0,none⟩) n n] (w.alloc (.cells (ints xs).toArray 3)) fun e w'=>e=.returned (.int .i64 R.2)∧bL B w0 w' q R.1 F:=by
 subst hn hR;have h1:=h.built xs hp (by omega);have h2:=h1.rdI (by omega);refine (lD _ _ xs.length xs h1 h2 hs hok).mono ?_
 rintro e w' ⟨rfl,h3⟩
 exact⟨rfl,h3.drop⟩
theorem bL.rC (h:bL B w0 w q S F) (xs:List Int) (n:Nat) (hn:xs.length=n) (hp:0<n) (hs:n≤200000) (hok:xs.all fC=true→BI S xs) (R:aA.SM×Int×Int) (hR:bK S xs=R) :
  Calls Tryz.prog 19 #[.pointer (some ⟨q,0,none⟩),.slice (some ⟨w.heap.size,0,none⟩) n n] (w.alloc (.cells (ints xs).toArray 3)) fun e w'=>e=.returned (.tuple #[.int .i64 R.2.1,.int .i64 R.2.2])∧bL B w0 w' q R.1 F:=by
 subst hn hR;have h1:=h.built xs hp (by omega);refine (jH _ _ xs.length xs h1 (fM.own _ _ _ _ _ (by omega)) hok).mono ?_
 rintro e w' ⟨rfl,h3⟩
 exact⟨rfl,h3.drop⟩
theorem bL.GZ (h:bL B w0 w q S F) (hok:BI S []) (R:aA.SM×Int×Int) (hR:bK S []=R) :
  Calls Tryz.prog 19 #[.pointer (some ⟨q,0,none⟩),.slice none 0 0] w fun e w'=>e=.returned (.tuple #[.int .i64 R.2.1,.int .i64 R.2.2])∧bL B w0 w' q R.1 F:=by
 subst hR;exact jH none 0 0 [] h (fun _ _ _=>⟨rfl,by omega,fun k=>by omega⟩) fun _=>hok
theorem bL.lG (h:bL B w0 w q S F) (v:Int) (hl:S.model.length≤1000000) (b:Bool) (hb:(decide (0<v)&&decide (v<S.model.length)&&gB S.model v.toNat)=b) :
  Calls Tryz.prog 21 #[.pointer (some ⟨q,0,none⟩),.int .i64 v] w fun e w'=>e=.returned (.bool b)∧bL B w0 w' q S F:=by
 subst hb;refine (Lg v h hl).mono ?_
 rintro e w' ⟨rfl,hd⟩
 exact⟨rfl,h.drawn hd⟩
theorem bL.PI (h:bL B w0 w q S F) (l:List Int) (n:Nat) (hc:S.core=l) (hn:l.length=n) (hl:n≤1000000) :
  Calls Tryz.prog 22 #[.pointer (some ⟨q,0,none⟩)] w fun e w'=>∃ a c',e=.returned (.slice (Option.map (fun b=>(⟨b,0,none⟩:Addr)) a) n c')∧bL B w0 w' q S (star (bO 3 a c' l) F):=by
 subst hc hn;refine (NH h hl).mono ?_
 rintro e w' ⟨a,c',rfl,h2⟩
 exact⟨a,c',rfl,h.nest h2⟩
theorem bL.grow {w':World} (h:bL B w0 w q S F) (k:Below w.heap.size w w'):bL B w0 w' q S F:=by
 obtain⟨p,M,h1,h2⟩:=h;exact⟨p,M,h1.grow k,h2⟩
theorem bL.vG (h:bL B w0 w q S F) (G:List (List Int)) (n:Nat) (hG:S.given=G) (hn:G.length=n) (hs:∀ x∈G,x.length≤1000000) (hb:n≤1000000) :
  Calls Tryz.prog 23 #[.pointer (some ⟨q,0,none⟩)] w fun e w'=>∃ (a:Option Nat) (c:Nat),e=.returned (.slice (Option.map (fun b=>(⟨b,0,none⟩:Addr)) a) n c)∧bL B w0 w' q S F∧um w' (Option.map (fun b=>(⟨b,0,none⟩:Addr)) a) n G:=by
 subst hG hn;refine (vo h hs hb).mono ?_
 rintro e w' ⟨a,c,W,rfl,h1,h2⟩
 have hl:W.length=S.given.length:=by rw[←h2,List.length_map]
 have h3:=pF h1 (fun x hx=>by
  have:=hs x.2.2 (by rw[←h2];exact List.mem_map.2 ⟨x,hx,rfl⟩)
  omega) (by omega)
 rw[hl,h2] at h3;exact⟨a,c,by rw[hl],(h.nest h1).drop,h3⟩
theorem fM.here {t:TypeId} {a:Option Nat} {c:Nat} {xs:List Int} (n:Nat) (hn:xs.length=n) (hs:xs.length≤1000000):fM B w0 (star (bO t a c xs) F) (a.map fun b=>⟨b,0,none⟩) n xs:=by subst hn;exact fM.own _ _ _ _ _ hs
theorem fM.nil:fM B w0 F none 0 []:=fun _ _ _=>⟨rfl,by omega,fun k=>by omega⟩
end
theorem Ug {S:aA.SM} {l l2:List Int} (e:bQ l=l2) (h:Rw S l2):Rw S (bQ l):=by rw[e];exact h
theorem rD (w:World):Calls Tryz.prog 15 #[] w fun e w'=>e=.returned (.bool true)∧Below w.heap.size w w':=by
 go_enter Tryz.func15,Tryz.ntmps15
 go_wp2_with fail
 refine (lC 1000 100 w).mono ?_
 rintro e w1 ⟨q,rfl,h1⟩
 have H1:=zH h1;clear h1
 go_wp2_with fail
 refine (H1.out.AU [1,2] 2 rfl (by omega) (by omega) (fun _=>Ug (by decide +kernel) (zs0.add cl1).1) _ add1).mono ?_
 rintro e w2 ⟨rfl,h2⟩
 have H2:=zH h2;clear h2 H1
 go_wp2_with fail
 refine (H2.out.AU [-1,2] 2 rfl (by omega) (by omega) (fun _=>Ug (by decide +kernel) (zs1.add cl2).1) _ add2).mono ?_
 rintro e w3 ⟨rfl,h3⟩
 have H3:=zH h3;clear h3 H2
 go_wp2_with fail
 refine (H3.out.AU [1,-2] 2 rfl (by omega) (by omega) (fun _=>Ug (by decide +kernel) (zs2.add cl3).1) _ am8).mono ?_
 rintro e w4 ⟨rfl,h4⟩
 have H4:=zH h4;clear h4 H3
 go_wp2_with fail
 refine (H4.out.GZ sv1.1 _ am9).mono ?_
 rintro e w5 ⟨rfl,h5⟩
 have H5:=zH h5;clear h5 H4
 go_wp2_with fail
 refine (H5.out.lG 1 (by rw[k2m];decide) true (by rw[k2m];decide)).mono ?_
 rintro e w6 ⟨rfl,h6⟩
 have H6:=zH h6;clear h6 H5
 go_wp2_with fail
 refine (H6.out.lG 2 (by rw[k2m];decide) true (by rw[k2m];decide)).mono ?_
 rintro e w7 ⟨rfl,h7⟩
 have H7:=zH h7;clear h7 H6
 go_wp2_with fail
 refine (H7.out.rC [-1] 1 rfl (by omega) (by omega) (fun _=>sv2.1) _ ana).mono ?_
 rintro e w8 ⟨rfl,h8⟩
 have H8:=zH h8;clear h8 H7
 go_wp2_with fail
 refine (H8.out.PI [-1] 1 k3c rfl (by omega)).mono ?_
 rintro e w9 ⟨ca,cc,rfl,h9⟩
 have H9:=zH h9;clear h9 H8
 go_wp2_with fail
 refine (H9.out.AU [-1,-2] 2 rfl (by omega) (by omega) (fun _=>Ug (by decide +kernel) (sv2.2.1.add cl4).1) _ anb).mono ?_
 rintro e w10 ⟨rfl,h10⟩
 have DJ:=zH h10;clear h10 H9
 go_wp2_with fail
 refine (DJ.out.GZ sv3.1 _ anc).mono ?_
 rintro e w11 ⟨rfl,h11⟩
 have H11:=zH h11;clear h11 DJ
 go_wp2_with fail
 refine (Lm H11.out ai2).mono ?_
 rintro e w12 ⟨h12,_⟩
 obtain⟨ta,tc,rfl,FE,t1,t2⟩:=h12 tr2;obtain⟨nb,hnb⟩:∃ n,(iI K5).1.length=n:=⟨_,rfl⟩;have MI:bts.length=nb:=hnb;rw[hnb] at t1 ⊢;have IC:=zH (show bL w.heap.size w w12 q K5 (star (Ba 5 ta tc bts) (star (bO 3 ca cc [-1]) emp)) from FE);have HNB:=zH MI;clear FE H11 hnb MI
 go_wp2_with fail
 refine (IC.out.rC [0] 1 rfl (by omega) (by omega) (fun k=>absurd k (by decide +kernel)) _ ane).mono ?_
 rintro e w13 ⟨rfl,FE⟩
 have Wo:=zH FE;clear FE IC
 go_wp2_with fail
 refine (Wo.out.AU [1,-1] 2 rfl (by omega) (by omega) (fun k=>absurd k (by decide +kernel)) _ anf).mono ?_
 rintro e w14 ⟨rfl,QX⟩
 have H14:=zH QX;clear QX Wo
 go_wp2_with fail
 have Qd:=H14.out.built [-1] (by decide) (by decide);have r1:=Qd.rdI (by decide);have r2:=(Qd.frame (show _=star (bO 3 ca cc [-1]) (star (bO 3 (some w14.heap.size) 1 [-1]) (star (Ba 5 ta tc bts) emp)) by simp only[List.length_singleton];ac_rfl)).rdI (by decide);have HI:=zH (Nw _ _ 1 cc 1 1 [-1] [-1] _ r2 r1);have H15:=zH (Qd.frame (show _=star (Ba 5 ta tc bts) (star (bO 3 ca cc [-1]) (star (bO 3 (some w14.heap.size) 1 [-1]) emp)) by simp only[List.length_singleton];ac_rfl));clear Qd r1 r2 H14;refine HI.out.mono ?_
 rintro e w15 ⟨rfl,hd⟩
 have H16:=zH (H15.out.drawn hd);clear hd H15 HI
 go_wp2_with fail
 refine (H16.out.vG _ 4 GY rfl (by decide) (by omega)).mono ?_
 rintro e w17 ⟨ga,gc,rfl,h17,r17⟩
 have y17:=h17.rdY (by have:=LG;omega);rw[HNB.out] at y17;have hbl:=LG;rw[HNB.out] at hbl;have hch:=acr;rw[GY] at hch;have HC:=zH (VZ _ 4 gc _ _ nb tc bts w17 r17 y17 J6 (by omega) hbl t1 t2 (by decide));have H17:=zH h17;have HCH:=zH hch;have KF:=zH hbl;clear h17 r17 y17 H16 h12 hch hbl
 go_wp2_with fail
 refine HC.out.mono ?_
 rintro e w18 ⟨rfl,hb⟩
 rw[HCH.out];have H18:=zH (H17.out.grow hb);clear hb HC H17
 go_wp2_with fail
 refine (H18.out.vG _ 4 GY rfl (by decide) (by omega)).mono ?_
 rintro e w19 ⟨ga2,gc2,rfl,h19,r19⟩
 have y19:=h19.rdY (by have:=LG;omega);rw[HNB.out] at y19;have HC:=zH (Sv _ 4 gc2 _ _ nb tc bts w19 r19 y19 J6 (by omega) KF.out t1 t2 (by decide));have H19:=zH h19;clear h19 r19 y19 H18
 go_wp2_with fail
 refine HC.out.mono ?_
 rintro e w20 ⟨rfl,hb⟩
 rw[HCH.out];have H20:=zH (H19.out.grow hb);clear hb HC H19
 go_wp2
 go_ret
 exact⟨rfl,H20.out.below⟩
end Go.Proofs.YthbbmdnfkkffjaaGreat

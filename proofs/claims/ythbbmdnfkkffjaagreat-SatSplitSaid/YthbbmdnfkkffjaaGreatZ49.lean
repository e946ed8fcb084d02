/-
  Parts of the proof, joined by program: Byte5, RChk, Kn0.
-/
import Derived.Test.YthbbmdnfkkffjaaGreatZ48
import Derived.Test.YthbbmdnfkkffjaaGreatZ47
import Derived.Test.YthbbmdnfkkffjaaGreatZ36
import Derived.Test.YthbbmdnfkkffjaaGreatZ43
namespace Go.Proofs.YthbbmdnfkkffjaaGreat
open Go.RowKit Go.Proofs.PlaitSep Go.Proofs.PlaitPure
theorem takeF_of {a b c d:Int} {r:List Int} (h:a≤127):takeF (a :: b :: c :: d :: r)=some (numF a b c d,r):=by show (if a≤127 then _ else _)=_;rw[if_pos h]
theorem takeF_high {a b c d:Int} {r:List Int} (h:127<a):takeF (a :: b :: c :: d :: r)=none:=by show (if a≤127 then _ else _)=_;rw[if_neg (by omega)]
theorem takeF_less {b:List Int} (h:b.length<4):takeF b=none:=by
 match b,h with
 | [],_=>rfl
 | [_],_=>rfl
 | [_,_],_=>rfl
 | [_,_,_],_=>rfl
 | _ :: _ :: _ :: _ :: _,h=>simp at h;omega
theorem four_of {b:List Int} (h:4≤b.length):∃ x y z u r,b=x :: y :: z :: u :: r:=by
 match b,h with
 | x :: y :: z :: u :: r,_=>exact⟨x,y,z,u,r,rfl⟩
 | [],h=>simp at h
 | [_],h=>simp at h
 | [_,_],h=>simp at h
 | [_,_,_],h=>simp at h
theorem decF_less {b:List Int} (h:b.length<8):decF b=([],120):=by
 cases h1:takeF b with
 | none=>exact decF_none1 h1
 | some p =>
  obtain⟨m,r⟩:=p
  have:=takeF_length h1
  exact decF_none2 h1 (takeF_less (by omega))
theorem decF_unlike {x y z u:Int} {r:List Int} (hb:IsBytes (x :: y :: z :: u :: r)) (h:¬ (x=80∧y=76∧z=84∧u=49)):decF (x :: y :: z :: u :: r)=([],120):=by
 have h1:=hb x (by simp)
 have h2:=hb y (by simp)
 have h3:=hb z (by simp)
 have h4:=hb u (by simp)
 by_cases hx:x≤127
 ·have ht:=takeF_of (b:=y) (c:=z) (d:=u) (r:=r) hx
  cases h5:takeF r with
  | none=>exact decF_none2 ht h5
  | some p=>exact decF_magic ht h5 (fun e=>h (by unfold numF at e;omega))
 ·exact decF_none1 (takeF_high (by omega))
theorem rdB_from4 {w:World} {b o n:Nat} {xs:List Int} (h:RdB w (some ⟨b,o,none⟩) n xs):RdB w (some ⟨b,o+4,none⟩) (n-4) (xs.drop 4):=by
 have hl:=h.len
 refine⟨by rw[List.length_drop];omega,by have:=h.small;omega,fun hp=>⟨b,o+4,rfl,fun j hj=>?_⟩⟩
 obtain⟨b',o',e,hc⟩:=h.cells (by omega)
 obtain⟨rfl,rfl⟩:b=b'∧o=o':=by simpa using e
 have:=hc (j+4) (by omega)
 rw[show o+4+j=o+(j+4) by omega,this]
 simp[gi,List.getD_eq_getElem?_getD,List.getElem?_drop,Nat.add_comm]
set_option maxRecDepth 100000 in
set_option maxHeartbeats 4000000 in
theorem rdecode_any (A:Option Addr) (n c:Nat) (b:List Int) (w:World) (hr:RdB w A n b) (hb:IsBytes b) (hn:n≤1000000) (hc:n≤c) (hcm:c≤9223372036854775807) :
  Calls Tryz.prog 57 #[.slice A n c] w (DecPost w b):=by
 have HR:=Lib.hid hr
 have HB:=Lib.hid hb
 have hd0:decide (4194304<(n:Int))=false:=by simp;omega
 by_cases hn8:n<8
 ·have hd1:decide ((n:Int)<8)=true:=by simp;omega
  have hbad:=decF_less (b:=b) (by have:=hr.len;omega)
  have HBAD:=Lib.hid hbad
  clear hr hb hbad
  go_enter Tryz.func57,Tryz.ntmps57
  go_wp2
  go_ret2
  exact decPost_bad (Below.refl _ _) HBAD.out
 have hd1:decide ((n:Int)<8)=false:=by simp;omega
 obtain⟨x,y,z,u,r,rfl⟩:=four_of (b:=b) (by have:=hr.len;omega)
 obtain⟨ab,ao,rfl,hcell⟩:=hr.cells (by omega)
 have c0:w.cell? ⟨ab,ao,none⟩=some (.int .u8 x):=hcell 0 (by omega)
 have c1:w.cell? ⟨ab,ao+1,none⟩=some (.int .u8 y):=hcell 1 (by omega)
 have c2:w.cell? ⟨ab,ao+2,none⟩=some (.int .u8 z):=hcell 2 (by omega)
 have c3:w.cell? ⟨ab,ao+3,none⟩=some (.int .u8 u):=hcell 3 (by omega)
 have n0:(0:Int)<(n:Int):=by omega
 have n1:(1:Int)<(n:Int):=by omega
 have n2':(2:Int)<(n:Int):=by omega
 have n3:(3:Int)<(n:Int):=by omega
 have hlen:=hr.len
 have HLEN:=Lib.hid hlen
 clear hr hcell hlen
 by_cases m0:x≠80
 ·have f0:(x != 80)=true:=by simpa using m0
  have hbad:=decF_unlike hb (fun h=>m0 h.1)
  have HBAD:=Lib.hid hbad
  clear hb hbad m0
  go_enter Tryz.func57,Tryz.ntmps57
  go_wp2
  go_ret2
  exact decPost_bad (Below.refl _ _) HBAD.out
 have m0:x=80:=Classical.not_not.1 m0
 have f0:(x != 80)=false:=by simpa using m0
 by_cases m1:y≠76
 ·have f1:(y != 76)=true:=by simpa using m1
  have hbad:=decF_unlike hb (fun h=>m1 h.2.1)
  have HBAD:=Lib.hid hbad
  clear hb hbad m1
  go_enter Tryz.func57,Tryz.ntmps57
  go_wp2
  go_ret2
  exact decPost_bad (Below.refl _ _) HBAD.out
 have m1:y=76:=Classical.not_not.1 m1
 have f1:(y != 76)=false:=by simpa using m1
 by_cases m2:z≠84
 ·have f2:(z != 84)=true:=by simpa using m2
  have hbad:=decF_unlike hb (fun h=>m2 h.2.2.1)
  have HBAD:=Lib.hid hbad
  clear hb hbad m2
  go_enter Tryz.func57,Tryz.ntmps57
  go_wp2
  go_ret2
  exact decPost_bad (Below.refl _ _) HBAD.out
 have m2:z=84:=Classical.not_not.1 m2
 have f2:(z != 84)=false:=by simpa using m2
 by_cases m3:u≠49
 ·have f3:(u != 49)=true:=by simpa using m3
  have hbad:=decF_unlike hb (fun h=>m3 h.2.2.2)
  have HBAD:=Lib.hid hbad
  clear hb hbad m3
  go_enter Tryz.func57,Tryz.ntmps57
  go_wp2
  go_ret2
  exact decPost_bad (Below.refl _ _) HBAD.out
 have m3:u=49:=Classical.not_not.1 m3
 have f3:(u != 49)=false:=by simpa using m3
 obtain⟨x2,y2,z2,u2,r2,hr2⟩:=four_of (b:=r) (by have:=HLEN.out;simp only[List.length_cons] at this;omega)
 subst m0 m1 m2 m3
 clear f0 f1 f2 f3
 have hbr:IsBytes r:=fun v hv=>hb v (by simp[hv])
 have hb2:=hbr x2 (by rw[hr2];simp)
 have hbr2:IsBytes r2:=fun v hv=>hbr v (by rw[hr2];simp[hv])
 have h1:takeF (80 :: 76 :: 84 :: 49 :: r)=some (1347179569,r):=takeF_of (by omega)
 obtain⟨n2,hn2⟩:∃ n2,r2.length=n2:=⟨_,rfl⟩
 have hnn:n-4-4=n2:=by have:=HLEN.out;rw[hr2] at this;simp only[List.length_cons] at this;omega
 obtain⟨M,hM⟩:∃ M:Nat,numF x2 y2 z2 u2=M:=⟨(numF x2 y2 z2 u2).toNat,by
  have:=hbr y2 (by rw[hr2];simp)
  have:=hbr z2 (by rw[hr2];simp)
  have:=hbr u2 (by rw[hr2];simp)
  unfold numF
  omega⟩
 have hMb:M≤4294967295:=by
  have:=hbr y2 (by rw[hr2];simp)
  have:=hbr z2 (by rw[hr2];simp)
  have:=hbr u2 (by rw[hr2];simp)
  unfold numF at hM
  omega
 have hfuel:rowsN M r2=none→decF (80 :: 76 :: 84 :: 49 :: r)=([],120):=fun h=>by
  by_cases hx:x2≤127
  ·have h2:takeF r=some ((M:Int),r2):=by rw[hr2,takeF_of hx,hM]
   exact decF_rows h1 h2 (by rw[Int.toNat_natCast];exact h)
  ·exact decF_none2 h1 (by rw[hr2];exact takeF_high (by omega))
 have hhigh:∀ l t,rowsN M r2=some (l,t)→x2≤127:=fun l t h=>by
  have:=(rowsN_length _ _ _ _ h).1
  have:=hbr y2 (by rw[hr2];simp)
  have:=hbr z2 (by rw[hr2];simp)
  have:=hbr u2 (by rw[hr2];simp)
  unfold numF at hM
  omega
 have hokf:∀ l,rowsN M r2=some (l,[])→decF (80 :: 76 :: 84 :: 49 :: r)=(l,0):=fun l h=>by
  have h2:takeF r=some ((M:Int),r2):=by rw[hr2,takeF_of (hhigh _ _ h),hM]
  exact decF_ok h1 h2 (by rw[Int.toNat_natCast];exact h)
 have hleft:∀ l v t,rowsN M r2=some (l,v :: t)→decF (80 :: 76 :: 84 :: 49 :: r)=([],120):=fun l v t h=>by
  have h2:takeF r=some ((M:Int),r2):=by rw[hr2,takeF_of (hhigh _ _ h),hM]
  exact decF_left h1 h2 (by rw[Int.toNat_natCast];exact h)
 have HFUEL:=Lib.hid hfuel
 have HOKF:=Lib.hid hokf
 have HLEFT:=Lib.hid hleft
 have HR2:=Lib.hid hr2
 have HM:=Lib.hid hM
 have HBR:=Lib.hid hbr
 have HBR2:=Lib.hid hbr2
 have HU0:=Lib.hid (show RdB w (some ⟨ab,ao+4,none⟩) (n-4) r from rdB_from4 HR.out)
 have h4n:(4:Int)≤(n:Int):=by omega
 have h4c:(4:Int)<(c:Int):=by omega
 have h4cn:4<c:=by omega
 obtain⟨b0,hb0⟩:∃ b0,(80 :: 76 :: 84 :: 49 :: r:List Int)=b0:=⟨_,rfl⟩
 rw[hb0] at HFUEL HOKF HLEFT ⊢
 clear hb hbr hb2 hbr2 h1 hfuel hhigh hokf hleft hr2 hM hn2 hb0
 go_enter Tryz.func57,Tryz.ntmps57
 go_wp2_with fail
 refine (tnumber_any (some ⟨ab,ao+4,none⟩) (n-4) (c-4) r w HU0.out HBR.out (by omega) (by omega)).mono ?_
 rintro e w3 ⟨_,hgood⟩
 obtain⟨A3,c3',rfl,hD3,hU3,hc3,hc3'⟩:=hgood _ _ _ _ _ HR2.out
 have HB3:=Lib.hid (hD3.below w.heap.size)
 have hU30:=hU3 _ HU0.out
 rw[hnn] at hc3 hU30 ⊢
 rw[HM.out]
 have HU3:=Lib.hid hU30
 clear hD3 hgood hU3 hU30
 clear c0 c1 c2 c3
 go_wp2
 go_loopw [0,6,7] (fun v0 v6 v7 wr=>∃ (k:Nat) (A':Option Addr) (n' c':Nat) (b':List Int) (a:Option Nat) (ac:Nat) (W:Rws),k≤M∧n'+4*k≤n2∧n'≤c'∧c'≤c3'∧v7=.int .i64 k∧v0=.slice A' n' c'∧v6=.slice (a.map fun b=>⟨b,0,none⟩) k ac∧Hid (RdB w A' n' b')∧Hid (IsBytes b') ∧
  Hid (St w.heap.size w wr (star (rwsHP 27 a ac W) emp))∧Hid (W.length=k)∧Hid (addR (W.map fun x=>x.2.2) (rowsN (M-k) b')=rowsN M r2)∧Hid (∀ x∈W,x.2.2.length≤n2)) (fun _ _ v7 _=>M-(intOf v7).toNat)
 case atStart=>exact⟨0,A3,n2,c3',r2,none,0,[],Nat.zero_le _,by omega,hc3,Nat.le_refl _,rfl,rfl,rfl,HU3.out,HBR2.out,(by rw[rwsHP_nil,star_emp];exact⟨HB3.out,HB3.out.size,Sat.emp _ _⟩:St w.heap.size w w3 (star (rwsHP 27 none 0 []) emp)),(rfl:([]:Rws).length=0),(addR_nil _:addR [] (rowsN (M-0) r2)=rowsN M r2),(fun x hx=>absurd hx (by simp):∀ x∈([]:Rws),x.2.2.length≤n2)⟩
 case round =>
  obtain⟨k,A',n',c',b',a,ac,W,hk,hn',hc',hcc',rfl,rfl,rfl,HRB,HBY,HST,HWL,HCO,HWS⟩:=hrel
  by_cases hkM:k<M
  ·have hkM2:(k:Int)<(M:Int):=by omega
   have hMk:M-k=(M-(k+1))+1:=by omega
   have HMK:=Lib.hid hMk
   clear hMk
   by_cases hn4:n'<4
   ·have hbad:=HFUEL.out (by rw[←HCO.out,HMK.out];exact addR_rows_none (rowN_none (takeF_less (by rw[HRB.out.len];exact hn4))))
    have HBAD:=Lib.hid hbad
    clear hbad
    go_wp2_with fail
    refine (tnumber_any A' n' c' b' wr (HRB.out.grow HST.out.below) HBY.out hc' (by omega)).mono ?_
    rintro e w4 ⟨hbad,_⟩
    obtain⟨rfl,hD⟩:=hbad hn4
    have HB4:=Lib.hid (HST.out.below.trans (hD.below _))
    clear hD hbad
    go_wp2
    go_ret2
    exact decPost_bad HB4.out HBAD.out
   obtain⟨x4,y4,z4,u4,b2,hb2⟩:=four_of (b:=b') (by rw[HRB.out.len];omega)
   obtain⟨hx4,hx4'⟩:=HBY.out x4 (by rw[hb2];simp)
   obtain⟨hy4,hy4'⟩:=HBY.out y4 (by rw[hb2];simp)
   obtain⟨hz4,hz4'⟩:=HBY.out z4 (by rw[hb2];simp)
   obtain⟨hu4,hu4'⟩:=HBY.out u4 (by rw[hb2];simp)
   obtain⟨X,hX⟩:∃ X:Nat,numF x4 y4 z4 u4=X:=⟨(numF x4 y4 z4 u4).toNat,by unfold numF;omega⟩
   have hXb:X≤4294967295:=by unfold numF at hX;omega
   obtain⟨n4,hn4e⟩:∃ n4,b2.length=n4:=⟨_,rfl⟩
   have hn44:n'-4=n4:=by have:=HRB.out.len;rw[hb2] at this;simp only[List.length_cons] at this;omega
   have hby2:IsBytes b2:=fun v hv=>HBY.out v (by rw[hb2];simp[hv])
   have hrown:n4<4*X→rowN b'=none:=fun h=>by
    by_cases hx:x4≤127
    ·rw[rowN_eq (hb2▸takeF_of hx),hX,Int.toNat_natCast]
     exact readN_short (by rw[hn4e];exact h)
    ·exact rowN_none (hb2▸takeF_high (by omega))
   have hrow:4*X≤n4→rowN b'=readN X b2:=fun h=>by
    have hx:x4≤127:=by unfold numF at hX;omega
    rw[rowN_eq (hb2▸takeF_of hx),hX,Int.toNat_natCast]
   have HROWN:=Lib.hid hrown
   have HROW:=Lib.hid hrow
   have HB2:=Lib.hid hb2
   have HX:=Lib.hid hX
   have HN4:=Lib.hid hn4e
   have HBY2:=Lib.hid hby2
   clear hx4 hx4' hy4 hy4' hz4 hz4' hu4 hu4' hrown hrow hb2 hX hn4e hby2
   go_wp2_with fail
   refine (tnumber_any A' n' c' b' wr (HRB.out.grow HST.out.below) HBY.out hc' (by omega)).mono ?_
   rintro e w4 ⟨_,hgood⟩
   obtain⟨A4,c4,rfl,hD,hU,hc4,hc4'⟩:=hgood _ _ _ _ _ HB2.out
   have HST4:=Lib.hid (HST.out.drawn hD)
   have hU0:=hU _ HRB.out
   rw[hn44] at hc4 hU0 ⊢
   rw[HX.out]
   have HU4:=Lib.hid hU0
   clear hD hgood hU hU0
   by_cases hxn:(n4:Int)/4<X
   ·have e2:decide ((n4:Int)/4<(X:Int))=true:=by simpa using hxn
    have hbad:=HFUEL.out (by rw[←HCO.out,HMK.out];exact addR_rows_none (HROWN.out (by omega)))
    have HBAD:=Lib.hid hbad
    clear hbad
    go_wp2
    go_ret2
    exact decPost_bad HST4.out.below HBAD.out
   ·have e2:decide ((n4:Int)/4<(X:Int))=false:=by simpa using hxn
    have hX4:4*X≤n4:=by omega
    have hn4':n4+4*(k+1)≤n2:=by omega
    have HRW:=Lib.hid (HROW.out hX4)
    go_wp2
    have H5:=Lib.hid (show St w.heap.size w w4 (star (sli 3 none 0 []) (rwsHP 27 a ac W)) from⟨HST4.out.below,HST4.out.base,(HST4.out.conseq (star_emp _)).sat.sl_nil _ _⟩)
    go_loopw [0,11,12] (fun v0 v11 v12 wr=>∃ (t:Nat) (A':Option Addr) (n' c':Nat) (b':List Int) (xa:Option Nat) (xc:Nat) (xs:List Int),t≤X∧n'+4*t=n4∧n'≤c'∧c'≤c3'∧v12=.int .i64 t∧v0=.slice A' n' c'∧v11=.slice (xa.map fun b=>⟨b,0,none⟩) t xc∧Hid (RdB w A' n' b')∧Hid (IsBytes b') ∧
     Hid (St w.heap.size w wr (star (sli 3 xa xc xs) (rwsHP 27 a ac W)))∧Hid (xs.length=t)∧Hid (addR xs (readN (X-t) b')=readN X b2)) (fun _ _ v12 _=>X-(intOf v12).toNat)
    case atStart=>exact⟨0,A4,n4,c4,b2,none,0,[],Nat.zero_le _,by omega,hc4,by omega,rfl,rfl,rfl,HU4.out,HBY2.out,H5.out,(rfl:([]:List Int).length=0),(addR_nil _:addR [] (readN (X-0) b2)=readN X b2)⟩
    case round =>
     obtain⟨t,A5,n5,c5,b5,xa,xc,xs,htX,hn5,hc5,hcc5,rfl,rfl,rfl,HRB5,HBY5,HST5,HXL,HCO5⟩:=hrel
     by_cases htX2:t<X
     ·have htX3:(t:Int)<(X:Int):=by omega
      have hXt:X-t=(X-(t+1))+1:=by omega
      have HXT:=Lib.hid hXt
      clear hXt
      obtain⟨x6,y6,z6,u6,b6,hb6⟩:=four_of (b:=b5) (by rw[HRB5.out.len];omega)
      obtain⟨hx6,hx6'⟩:=HBY5.out x6 (by rw[hb6];simp)
      obtain⟨hy6,hy6'⟩:=HBY5.out y6 (by rw[hb6];simp)
      obtain⟨hz6,hz6'⟩:=HBY5.out z6 (by rw[hb6];simp)
      obtain⟨hu6,hu6'⟩:=HBY5.out u6 (by rw[hb6];simp)
      obtain⟨v,hv⟩:∃ v,numF x6 y6 z6 u6=v:=⟨_,rfl⟩
      have hv0:0≤v:=by unfold numF at hv;omega
      have hhi:2147483647<v→takeF b5=none:=fun h=>hb6▸takeF_high (by unfold numF at hv;omega)
      have hlo:v≤2147483647→takeF b5=some (v,b6):=fun h=>by rw[hb6,takeF_of (by unfold numF at hv;omega),hv]
      have HHI:=Lib.hid hhi
      have HLO:=Lib.hid hlo
      have HB6:=Lib.hid hb6
      have HV:=Lib.hid hv
      have hby6:IsBytes b6:=fun v hv=>HBY5.out v (by rw[hb6];simp[hv])
      have HBY6:=Lib.hid hby6
      clear hx6 hx6' hy6 hy6' hz6 hz6' hu6 hu6' hhi hlo hb6 hv hby6
      go_wp2_with fail
      refine (tnumber_any A5 n5 c5 b5 wr (HRB5.out.grow HST5.out.below) HBY5.out hc5 (by omega)).mono ?_
      rintro e w6 ⟨_,hgood⟩
      obtain⟨A6,c6,rfl,hD,hU,hc6,hc6'⟩:=hgood _ _ _ _ _ HB6.out
      have HST6:=Lib.hid (HST5.out.drawn hD)
      have HU6:=Lib.hid (hU _ HRB5.out)
      rw[HV.out]
      clear hD hgood hU
      by_cases hvt:2147483647<v
      ·have e3:decide (2147483647<v)=true:=by simpa using hvt
       have hbad:=HFUEL.out (by rw[←HCO.out,HMK.out];exact addR_rows_none (by rw[HRW.out,←HCO5.out,HXT.out];exact addR_read_none (HHI.out hvt)))
       have HBAD:=Lib.hid hbad
       clear hbad
       go_wp2
       go_ret2
       exact decPost_bad HST6.out.below HBAD.out
      ·have e3:decide (2147483647<v)=false:=by simpa using hvt
       have hco6:=HCO5.out
       rw[HXT.out,addR_read (HLO.out (by omega))] at hco6
       have HCO6:=Lib.hid hco6
       clear hco6
       go_wp2_with (at_builtin;refine wpList_append_int rfl _ _ 27 3 rfl Tryz.underlying27 Tryz.infoInt HST6.out t HXL.out rfl v rfl (by omega) ?_;intro b' cc7 w7 h7;have H7:=Lib.hid h7;clear h7)
       go_roundw
       case rel=>exact⟨t+1,A6,n5-4,c6,b6,some b',cc7,xs++[v],by omega,by omega,by omega,by omega,by go_num,rfl,rfl,HU6.out,HBY6.out,H7.out,(by rw[List.length_append,HXL.out];rfl:(xs++[v]).length=t+1),HCO6.out⟩
       case measure=>simp[intOf];omega
     ·obtain rfl:t=X:=by omega
      have hread:=HCO5.out
      rw[Nat.sub_self] at hread
      have hread2:readN t b2=some (xs,b5):=by rw[←hread];simp[readN,addR]
      have hcon:=HCO.out
      rw[HMK.out,addR_rows (by rw[HRW.out];exact hread2)] at hcon
      have HCON:=Lib.hid hcon
      have h6:=rws_focus ((HST5.out).conseq (show _=star (rwsHP 27 a ac W) (sli 3 xa xc xs) by ac_rfl)) HWL.out
      have H6:=Lib.hid h6
      clear hread hread2 hcon h6
      go_wp2_with (at_builtin;refine wpList_append1 rfl _ _ 37 27 (.slice none 0 0) 24 rfl Tryz.underlying37 Tryz.infoRow rfl H6.out rfl (.slice (xa.map fun b=>⟨b,0,none⟩) t xc) rfl rfl (by omega) (by simp only[maxLen];omega) ?_;intro b' cc7 w7 h7;have H7:=Lib.hid h7;clear h7)
      have h8:=rws_push (F:=emp) (ka:=xa) (kc:=xc) (l:=xs) HWL.out (by rw[HXL.out];exact H7.out.conseq (by rw[star_emp];ac_rfl))
      have H8:=Lib.hid h8
      clear h8
      go_wp2
      go_roundw
      case rel =>
       refine⟨k+1,A5,n5,c5,b5,some b',cc7,W++[(xa,xc,xs)],by omega,by omega,by omega,by omega,by go_num,rfl,rfl,HRB5.out,HBY5.out,H8.out,(by rw[List.length_append,HWL.out];rfl:(W++[(xa,xc,xs)]).length=k+1),(?_:addR ((W++[(xa,xc,xs)]).map fun x=>x.2.2) (rowsN (M-(k+1)) b5)=rowsN M r2),(?_:∀ x∈W++[(xa,xc,xs)],x.2.2.length≤n2)⟩
       ·rw[List.map_append];exact HCON.out
       ·intro x hx
        rcases List.mem_append.1 hx with hx | hx
        ·exact HWS.out x hx
        ·rw[List.mem_singleton.1 hx,HXL.out];omega
      case measure=>simp[intOf];omega
  ·obtain rfl:k=M:=by omega
   have hfin:=HCO.out
   rw[Nat.sub_self] at hfin
   have hfin2:rowsN k r2=some (W.map (fun x=>x.2.2),b'):=by rw[←hfin];simp[rowsN,addR]
   have HFI:=Lib.hid hfin2
   clear hfin hfin2
   by_cases hn0:n'=0
   ·subst hn0
    have hb0:b'=[]:=List.eq_nil_of_length_eq_zero HRB.out.len
    have hok:=HOKF.out _ (by rw[HFI.out,hb0])
    have hrd:=rws_rd HST.out (fun x hx=>by have:=HWS.out x hx;omega) (by rw[HWL.out];omega)
    rw[HWL.out] at hrd
    have HOK:=Lib.hid hok
    have HRD:=Lib.hid hrd
    clear hb0 hok hrd
    go_wp2
    go_ret2
    refine⟨HST.out.below,fun _=>?_,fun h=>absurd (by rw[HOK.out]) h⟩
    rw[HOK.out]
    simp only[List.length_map,HWL.out]
    exact⟨_,ac,rfl,HRD.out,rws_caps HST.out HWL.out⟩
   ·have e3:decide ((0:Int)<(n':Int))=true:=by simp;omega
    have hbad:decF b0=([],120):=by
     match b',HRB.out.len,HFI.out with
     | [],hl,_=>simp at hl;omega
     | x :: t,_,hf=>exact HLEFT.out _ _ _ hf
    have HBAD:=Lib.hid hbad
    clear hbad
    go_wp2
    go_ret2
    exact decPost_bad HST.out.below HBAD.out
end Go.Proofs.YthbbmdnfkkffjaaGreat
namespace Go.Proofs.YthbbmdnfkkffjaaGreat
open Go.RowKit Go.Proofs.PlaitSep Go.Proofs.PlaitPure
set_option maxRecDepth 100000 in
set_option maxHeartbeats 4000000 in
theorem rcheck_any (AG:Option Addr) (nG cG:Nat) (G:List (List Int)) (AB:Option Addr) (nB cB:Nat) (b:List Int) (w:World) (hG:Rd2 w AG nG G) (hB:RdB w AB nB b) (hby:IsBytes b) (hnG:nG≤100000) (hnB:nB≤400000) (hcB:nB≤cB) (hcm:cB≤9223372036854775807)
  (hsum:G.flatten.length≤100000) :
  Calls Tryz.prog 32 #[.slice AG nG cG,.slice AB nB cB] w fun e w'=>e=.returned (.int .i64 (chkF G b).2)∧Below w.heap.size w w':=by
 have HG:=Lib.hid hG
 have HB:=Lib.hid hB
 have HBY:=Lib.hid hby
 have HSUM:=Lib.hid hsum
 clear hG hB hby hsum
 go_enter Tryz.func32,Tryz.ntmps32
 go_wp2_with fail
 refine (rdecode_any AB nB cB b w HB.out HBY.out (by omega) hcB hcm).mono ?_
 rintro e w1 ⟨hb1,hgood,hbad⟩
 rcases decF_err b with h0 | ⟨h0,_⟩
 ·obtain⟨AL,cL,rfl,hrd,_⟩:=hgood h0
  have hsz:=decF_size h0
  rw[HB.out.len] at hsz
  obtain⟨l,hl⟩:∃ l,(decF b).1=l:=⟨_,rfl⟩
  have hchk:chkF G b=match derGo G [] l with
   | none=>([],121)
   | some D=>if D.length=0∨0<(gl D (D.length-1)).length then ([],122) else (l,0):=by
   unfold chkF
   rw[if_neg (by simpa using h0),hl]
   rfl
  rw[hl] at hrd hsz ⊢
  have hls:∀ j,j<l.length→(gl l j).length≤100000:=fun j hj=>by have:=len_sum hj;omega
  obtain⟨nL,hnL⟩:∃ nL,l.length=nL:=⟨_,rfl⟩
  rw[hnL] at hrd hls hsz ⊢
  have hnl:nL≤100000:=by omega
  have HD:=Lib.hid (rDerive_any AG nG cG G AL nL cL l w1 (HG.out.grow hb1) hrd hnG hnl HSUM.out hls)
  have HCHK:=Lib.hid hchk
  have HB1:=Lib.hid hb1
  have HNL:=Lib.hid hnL
  clear hb1 hgood hbad h0 hrd hsz hl hchk hls hnL
  go_wp2_with fail
  refine HD.out.mono ?_
  rintro e w2 ⟨hb2,hgood,hbad⟩
  have HB2:=Lib.hid (btr HB1.out hb2)
  have HGOOD:=Lib.hid hgood
  have HBAD:=Lib.hid hbad
  clear hb2 hgood hbad HD
  cases hd:derGo G [] l with
  | none =>
   have he:=HBAD.out hd
   subst he
   have HN:=Lib.hid (show chkF G b=([],121) by rw[HCHK.out,hd])
   clear hd
   go_wp2
   go_ret
   exact⟨by rw[HN.out];rfl,HB2.out⟩
  | some D =>
   obtain⟨AA,c,rfl,hrd,_⟩:=HGOOD.out D hd
   have HC2:=Lib.hid (show chkF G b=if D.length=0∨0<(gl D (D.length-1)).length then ([],122) else (l,0) by rw[HCHK.out,hd])
   have hlen:=derGo_len hd
   obtain⟨n,hn⟩:∃ n,D.length=n:=⟨_,rfl⟩
   have hnn:n≤100000:=by have:=HNL.out;simp at hlen;omega
   rw[hn] at hrd ⊢
   have HR2:=Lib.hid hrd
   have HN:=Lib.hid hn
   clear hd hlen hrd hn HGOOD HBAD HCHK
   by_cases hn0:n=0
   ·subst hn0
    have HK:=Lib.hid (show chkF G b=([],122) by rw[HC2.out,if_pos (.inl HN.out)])
    go_wp2
    go_ret
    exact⟨by rw[HK.out];rfl,HB2.out⟩
   ·have e0:((n:Int)==0)=false:=by simp;omega
    obtain⟨t,ht⟩:∃ t:Nat,n=t+1:=⟨n-1,by omega⟩
    have htI:(n:Int)-1=(t:Int):=by omega
    obtain⟨ab,ao,hA,hcell⟩:=HR2.out.cells (by omega)
    subst hA
    obtain⟨Aj,cj,d1,_⟩:=hcell t (by omega)
    obtain⟨ln,hln⟩:∃ ln,(gl D t).length=ln:=⟨_,rfl⟩
    rw[hln] at d1
    have hk:chkF G b=if 0<ln then ([],122) else (l,0):=by
     rw[HC2.out,HN.out,show n-1=t by omega,hln]
     simp[hn0]
    have HK:=Lib.hid hk
    have t0:(0:Int)≤(t:Int):=by omega
    have t1:(t:Int)<(n:Int):=by omega
    clear hcell hln hk
    by_cases hl0:0<ln
    ·have e1:decide ((0:Int)<(ln:Int))=true:=by simp;omega
     have HK2:=Lib.hid (show chkF G b=([],122) by rw[HK.out,if_pos hl0])
     go_wp2
     go_ret
     exact⟨by rw[HK2.out];rfl,HB2.out⟩
    ·have e1:decide ((0:Int)<(ln:Int))=false:=by simp;omega
     have HK2:=Lib.hid (show chkF G b=(l,0) by rw[HK.out,if_neg hl0])
     go_wp2
     go_ret
     exact⟨by rw[HK2.out];rfl,HB2.out⟩
 ·have he:=hbad (by rw[h0];decide)
  subst he
  have HN:=Lib.hid (show chkF G b=([],120) by unfold chkF;rw[if_pos (by rw[h0];decide),h0])
  have HB1:=Lib.hid hb1
  clear hgood hbad h0 hb1
  go_wp2
  go_ret
  exact⟨by rw[HN.out];rfl,HB1.out⟩
end Go.Proofs.YthbbmdnfkkffjaaGreat
namespace Go.Proofs.YthbbmdnfkkffjaaGreat
open Go.Proofs.PlaitSat
open Go.Proofs.PlaitPure hiding SM
def A1:PlaitSat.SM:=(K0.add [1,2]).1
def A2:PlaitSat.SM:=(A1.add [-1,2]).1
theorem cl1:ClOk [1,2]:=⟨by decide,by decide⟩
theorem cl2:ClOk [-1,2]:=⟨by decide,by decide⟩
theorem cl3:ClOk [1,-2]:=⟨by decide,by decide⟩
theorem cl4:ClOk [-1,-2]:=⟨by decide,by decide⟩
theorem add1:satAdd K0 [1,2]=(A1,0):=by
 unfold satAdd
 rw[if_pos (by decide +kernel),show onceL [1,2]=[1,2] by decide +kernel,if_pos (by decide +kernel)];rfl
theorem add2:satAdd A1 [-1,2]=(A2,0):=by
 unfold satAdd
 rw[if_pos (by decide +kernel),show onceL [-1,2]=[-1,2] by decide +kernel,if_pos (by decide +kernel)];rfl
theorem add3:satAdd A2 [1,-2]=(K1,0):=by
 unfold satAdd
 rw[if_pos (by decide +kernel),show onceL [1,-2]=[1,-2] by decide +kernel,if_pos (by decide +kernel)];rfl
theorem sol1:satSolve K1 []=(K2,1,0):=by
 have h:=k2
 unfold satSolve
 rw[if_pos (by decide +kernel),←h];rfl
theorem sol2:satSolve K2 [-1]=(K3,2,0):=by
 have h:=k3
 unfold satSolve
 rw[if_pos (by decide +kernel),←h];rfl
theorem add4:satAdd K3 [-1,-2]=(K4,0):=by
 unfold satAdd
 rw[if_pos (by decide +kernel),show onceL [-1,-2]=[-1,-2] by decide +kernel,if_pos (by decide +kernel)];rfl
theorem sol3:satSolve K4 []=(K5,2,0):=by
 have h:=k5
 unfold satSolve
 rw[if_pos (by decide +kernel),←h];rfl
theorem sol4:satSolve K5 [0]=(K5,0,130):=by
 unfold satSolve
 rw[if_neg (by decide +kernel)]
theorem add5:satAdd K5 [1,-1]=(K5,112):=by
 unfold satAdd
 rw[if_neg (by decide +kernel),show onceE [1,-1]=112 by decide +kernel]
theorem zs0:Zs 0 K0:=(new_zs 1000 100).1
theorem zs1:Zs 0 A1:=(zs0.add cl1).2.zs
theorem zs2:Zs 0 A2:=(zs1.add cl2).2.zs
theorem zs3:Zs 0 K1:=(zs2.add cl3).2.zs
theorem sv1:SvOk K1 []∧Zs 1 K2∧Answer [] K1 (K1.solve []).1 (K1.solve []).2.1 (K1.solve []).2.2:=zs3.solve (by omega) (by simp) (by simp)
theorem sv2:SvOk K2 [-1]∧Zs 2 K3∧Answer [-1] K2 (K2.solve [-1]).1 (K2.solve [-1]).2.1 (K2.solve [-1]).2.2:=sv1.2.1.solve (by omega) (by simp) (by simp)
theorem zs4:Zs 2 K4:=(sv2.2.1.add cl4).2.zs
theorem sv3:SvOk K4 []∧Zs 3 K5∧Answer [] K4 (K4.solve []).1 (K4.solve []).2.1 (K4.solve []).2.2:=zs4.solve (by omega) (by simp) (by simp)
theorem tr_given:K5.given=[[1,2],[-1,2],[1,-2],[-1,-2]]:=by decide +kernel
theorem tr_core:K5.core=[]:=by decide +kernel
theorem namesIn_dec {m:Nat} {l:List Int} (h:l.all (fun x=>!(decide (x< -1))||decide ((-2-x).toNat<m))=true):NamesIn m l:=fun x hx hlt=>by
 have:=List.all_eq_true.1 h x hx
 simp only[Bool.or_eq_true,Bool.not_eq_true',decide_eq_false_iff_not,decide_eq_true_eq] at this
 rcases this with k | k
 ·exact absurd hlt k
 ·exact k
theorem trOk5:TrOk K5:=by
 refine⟨tr_core,fun _=>⟨by decide +kernel,fun x hx=>?_,by decide +kernel,namesIn_dec (by decide +kernel)⟩,by decide +kernel,fun _=>by decide +kernel⟩
 have h:K5.steps.all (fun l=>decide (l.length≤1000000)&&l.all (fun x=>!(decide (x< -1))||decide ((-2-x).toNat<K5.steps.length)))=true:=by decide +kernel
 have h2:=List.all_eq_true.1 h x hx
 simp only[Bool.and_eq_true,decide_eq_true_eq] at h2
 exact⟨h2.1,namesIn_dec h2.2⟩
def bts:List Int:=(satTrace K5).1
theorem tr2:(satTrace K5).2=0:=by decide +kernel
theorem bts_bytes:IsBytes bts:=by
 have h:bts.all (fun x=>decide (0≤x)&&decide (x<256))=true:=by decide +kernel
 intro x hx
 have h2:=List.all_eq_true.1 h x hx
 simp only[Bool.and_eq_true,decide_eq_true_eq] at h2
 omega
theorem bts_len:bts.length≤400000:=by decide +kernel
theorem bts_chk:(chkF K5.given bts).2=0:=by decide +kernel
end Go.Proofs.YthbbmdnfkkffjaaGreat

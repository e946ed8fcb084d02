/-
  Parts of the proof, joined by program: Lw2, Vars, Lw1, Lw3, Open, OpenS, Cnt, TrimM, SndP.
-/
import Derived.Test.YthbbmdnfkkffjaaGreatY43
import Derived.Test.YthbbmdnfkkffjaaGreatY30
import Derived.Test.YthbbmdnfkkffjaaGreatY41
import Derived.Test.YthbbmdnfkkffjaaGreatY02
import Derived.Test.YthbbmdnfkkffjaaGreatY42
import Derived.Test.YthbbmdnfkkffjaaGreatY16
import Derived.Test.YthbbmdnfkkffjaaGreatY01
import Derived.ProofKit
import Derived.OpenShut
import Derived.ShutString
import Derived.ChangeOld
import Derived.Below
import Derived.SizedLaws
import Derived.Deep.Matrix
import Derived.Deep.SlicePairs
import Derived.ChangeArms
import Derived.Lib.Hide
set_option maxHeartbeats 8000000
set_option maxRecDepth 100000
namespace Go.Proofs.YthbbmdnfkkffjaaGreat
open Go.RowKit Go.Proofs.aC Go.Proofs.au
theorem afx {l:List Int} {x:Int} (h:x∈l):∃ i,i<l.length∧gi l i=x:=by
 obtain⟨i,hi,e⟩:=List.getElem_of_mem h;exact⟨i,hi,by rw[dh _ _ hi,e]⟩
theorem dO {xs:List Int} {x:Int}:hasB xs x=true↔x∈xs:=by
 unfold hasB;simp
theorem G5 {xs:List Int} {x:Int} (ha:∀ y∈xs,fC y=true) (hx:x∈bQ xs) (hn:-x∈bQ xs):dx xs=112:=by
 unfold dx;rw[if_pos (by rw[List.all_eq_true];exact ha),if_pos];unfold Au;rw[List.any_eq_true];exact⟨x,dA.1 hx,by simpa using dA.1 hn⟩
theorem G6 {xs:List Int} (ha:∀ y∈xs,fC y=true) (h:∀ x∈bQ xs,-x∉bQ xs):dx xs=0:=by
 unfold dx;rw[if_pos (by rw[List.all_eq_true];exact ha),if_neg];unfold Au;rw[List.any_eq_true]
 rintro⟨x,hx,hn⟩
 exact h x (dA.2 hx) (dA.2 (by simpa using hn))
theorem PK (A:Option Addr) (n cap:Nat) (xs:List Int) (w:World) (hr:Rd w A n xs) (hn:n≤1000000) :
  Calls Tryz.prog 38 #[.slice A n cap] w (vg w xs):=by
 have HR:=zH hr;clear hr
 go_enter Tryz.func38,Tryz.ntmps38
 go_wp2
 go_loopw [4,5] (fun v4 v5 wr=>∃ (j:Nat) (out:List Int) (oa:Option Nat) (oc:Nat),j≤n∧out.length≤j∧v5=.int .i64 j∧v4=iB oa out.length oc∧Hid (dR [] (xs.take j)=out)∧Hid (∀ x∈xs.take j,fC x=true) ∧
   Hid (St w.heap.size w wr (star (bO 3 oa oc out) emp))) (fun _ v5 _=>n-(intOf v5).toNat)
 case atStart=>exact⟨0,[],none,0,Nat.zero_le _,Nat.le_refl _,rfl,rfl,rfl,(by simp:∀ x∈xs.take 0,fC x=true),⟨(St.start w).below,(St.start w).base,(St.start w).sat.uh _ _⟩⟩
 case round =>
  obtain⟨j,out,oa,oc,hj,hol,rfl,rfl,HO,HL,HST⟩:=hrel;obtain⟨ol,RD⟩:∃ ol,out.length=ol:=⟨_,rfl⟩;have HOL:=zH RD;rw[RD] at hol ⊢;clear RD
  by_cases hjn:j<n
  ·obtain⟨ab,ao,rfl,hc⟩:=(HR.out.grow HST.out.below).cells (by omega);have d1:=hc j hjn;clear hc;obtain⟨x,hx⟩:∃ x,gi xs j=x:=⟨_,rfl⟩;rw[hx] at d1;have hjx:j<xs.length:=by have:=HR.out.len;omega
   have HX:=zH hx;have HJX:=zH hjx;clear hx hjx
   cases hlb:fC x with
   | false =>
    have he:=mH.bad HJX.out HX.out hlb;have hfin:vg w xs (.returned (.tuple #[.slice none 0 0,.int .i64 110])) wr:=⟨fun h=>absurd (he.symm.trans h) (by decide),fun _=>⟨by rw[he],HST.out.below,HST.out.base,Sat.emp _ _⟩⟩;have HF:=zH hfin;clear hfin he;unfold iB
    by_cases h1:x=0
    ·have hd1:(x==0)=true:=by simpa using h1
     clear hlb h1
     go_wp2
     go_ret2
     exact HF.out
    ·have hd1:(x==0)=false:=by simpa using h1
     by_cases h2:65536<x
     ·have hd2:decide (65536<x)=true:=by simpa using h2
      clear hlb h1
      go_wp2
      go_ret2
      exact HF.out
     ·have hd2:decide (65536<x)=false:=by simpa using h2
      have hd3:decide (x< -65536)=true:=by simp[fC] at hlb;simp;omega
      clear hlb h1
      go_wp2
      go_ret2
      exact HF.out
   | true =>
    obtain⟨h1,h2,h3⟩:=bD.1 hlb;have hd1:(x==0)=false:=by simpa using h1
    have hd2:decide (65536<x)=false:=by simp;omega
    have hd3:decide (x< -65536)=false:=by simp;omega
    have Qb:=zH hlb;have ht:xs.take (j+1)=xs.take j++[x]:=by rw[ND HJX.out,HX.out]
    have hall:∀ y∈xs.take (j+1),fC y=true:=by
     intro y hy;rw[ht] at hy;rcases List.mem_append.1 hy with hy | hy
     ·exact HL.out y hy
     ·rw[List.mem_singleton.1 hy];exact Qb.out
    have hrd:=St.rd HST.out (by rw[HOL.out];omega);have hha:=sJ _ _ oc out x wr hrd;obtain⟨bb,hbb⟩:∃ bb,hasB out x=bb:=⟨_,rfl⟩;rw[hbb,HOL.out] at hha;have hout:dR [] (xs.take (j+1))=if x∈out then out else out++[x]:=by rw[ht,sN,HO.out]
    have J7:=zH hha;have Hw:=zH hbb;have Dk:=zH hall;have ai3:=zH hout;clear hlb h1 ht hall hrd hha hbb hout;unfold iB
    cases bb with
    | true =>
     go_wp2_with (go_at_call 20;refine (J7.out).mono ?_;rintro e w' ⟨rfl,rfl⟩)
     go_roundw
     case rel =>
      refine⟨j+1,out,oa,oc,by omega,by rw[HOL.out];omega,by go_num,by rw[HOL.out],?_,Dk.out,HST.out⟩;exact (ai3.out.trans (if_pos (dO.1 Hw.out)):dR [] (xs.take (j+1))=out)
     case measure=>simp[intOf];omega
    | false =>
     go_wp2_with (first
      | (go_at_call 20;refine (J7.out).mono ?_;rintro e w' ⟨rfl,rfl⟩)
      | (at_builtin;refine cO rfl _ _ 27 3 rfl Tryz.underlying27 Tryz.gQ HST.out ol HOL.out rfl x rfl (by omega) ?_;intro b' c' w1 h4;have H4:=zH h4;clear h4))
     go_roundw
     case rel =>
      refine⟨j+1,out++[x],some b',c',by omega,by rw[List.length_append,HOL.out];simp;omega,by go_num,by rw[List.length_append,HOL.out];rfl,?_,Dk.out,H4.out⟩;exact (ai3.out.trans (if_neg (fun e=>by have:=dO.2 e;rw[Hw.out] at this;cases this)):dR [] (xs.take (j+1))=out++[x])
     case measure=>simp[intOf];omega
  ·obtain rfl:j=n:=by omega
   have hlen:=HR.out.len;have hoo:out=bQ xs:=by rw[←HO.out,←hlen,List.take_length];rfl
   have hall:∀ x∈xs,fC x=true:=by
    have:=HL.out
    rwa [←hlen,List.take_length] at this
   have HOO:=zH hoo;have Dk:=zH hall;clear hlen hoo hall;obtain⟨A2,hA2⟩:∃ A2:Option Addr,oa.map (fun b=>(⟨b,0,none⟩:Addr))=A2:=⟨_,rfl⟩
   have hrd:Rd wr A2 ol out:=by
    have:=St.rd HST.out (by rw[HOL.out];omega)
    rwa [hA2,HOL.out] at this
   have Gs:=zH hrd;have HA2:=zH hA2;unfold iB;rw[hA2];clear hA2 hrd
   go_wp2
   go_loop [6] (fun v6=>∃ i:Nat,i≤ol∧v6=.int .i64 i∧Hid (∀ k,k<i→-gi out k∉out)) (fun v6=>ol-(intOf v6).toNat)
   case atStart=>exact⟨0,Nat.zero_le _,rfl,(fun k hk=>absurd hk (Nat.not_lt_zero k):∀ k,k<0→_)⟩
   case round =>
    obtain⟨i,hi,rfl,HN⟩:=hrel
    by_cases hil:i<ol
    ·have hcells:=Gs.out.cells (by omega);obtain⟨b',o',rfl,hc⟩:=hcells;have d1:=hc i hil;clear hc;obtain⟨y,hy⟩:∃ y,gi out i=y:=⟨_,rfl⟩;rw[hy] at d1;have hyo:y∈out:=by rw[←hy];exact nZ (by rw[HOL.out];exact hil)
     have hyl:=bD.1 (Dk.out y (dA.1 (HOO.out▸hyo)));obtain⟨_,hy2,hy3⟩:=hyl;have hha:=sJ _ _ oc out (-y) wr Gs.out;obtain⟨bb,hbb⟩:∃ bb,hasB out (-y)=bb:=⟨_,rfl⟩;rw[hbb] at hha;have J7:=zH hha;have Hw:=zH hbb;have HY:=zH hy;have HYO:=zH hyo;clear hy hyo hha hbb
     cases bb with
     | true =>
      go_wp2_with (go_at_call 20;refine (J7.out).mono ?_;rintro e w' ⟨rfl,rfl⟩)
      go_ret2
      have he:=G5 Dk.out (HOO.out▸HYO.out) (HOO.out▸dO.1 Hw.out);exact⟨fun h=>absurd (he.symm.trans h) (by decide),fun _=>⟨by rw[he];rfl,HST.out.below,HST.out.base,Sat.emp _ _⟩⟩
     | false =>
      go_wp2_with (go_at_call 20;refine (J7.out).mono ?_;rintro e w' ⟨rfl,rfl⟩)
      go_round
      case rel =>
       refine⟨i+1,by omega,by go_num,(fun k hk=>?_:∀ k,k<i+1→_)⟩
       by_cases e:k=i
       ·rw[e,HY.out];intro hm;have:=dO.2 hm;rw[Hw.out] at this
        cases this
       ·exact HN.out k (by omega)
      case measure=>simp[intOf];omega
    ·obtain rfl:i=ol:=by omega
     go_wp2
     go_ret2
     have he:dx xs=0:=G6 Dk.out (by
      rw[←HOO.out];intro x hx hm;obtain⟨k,hk,rfl⟩:=afx hx
      exact HN.out k (by rw[←HOL.out];exact hk) hm)
     refine⟨fun _=>⟨oa,oc,?_,?_⟩,fun h=>absurd he h⟩
     ·rw[←HOO.out,HOL.out,←HA2.out];rfl
     ·rw[←HOO.out];exact HST.out.aB (aQ _)
def PL (v:Int) (c:List Int):Prop:=∀ x∈c,-v≤x∧x≤v
theorem PL.mono {v u:Int} {c:List Int} (h:PL v c) (hv:v≤u):PL u c:=fun x hx=>by have:=h x hx;omega
theorem PL.snoc {v x:Int} {c:List Int} (h:PL v c):PL (max (max v x) (-x)) (c++[x]):=fun y hy=>by
 rcases List.mem_append.1 hy with hy | hy
 ·have:=h y hy;omega
 ·rw[List.mem_singleton.1 hy];omega
theorem ano (v x:Int):(if (if v<x then x else v)< -x then -x else if v<x then x else v)=max (max v x) (-x):=by
 by_cases h:v<x
 ·simp only[h,if_true];split <;> omega
 ·simp only[h,if_false];split <;> omega
theorem ZV (A:Option Addr) (n cap:Nat) (xss:List (List Int)) (most:Int) (w:World) (hr:um w A n xss) (hm:0≤most) (hm2:most≤100000) :
  Calls Tryz.prog 40 #[.slice A n cap,.int .i64 most] w fun e w'=>∃ v,e=.returned (.int .i64 v)∧bJ w w'∧0≤v∧(v≤most→∀ c∈xss,PL v c):=by
 have HR:=zH hr;have hsm:=hr.small;clear hr
 go_enter Tryz.func40,Tryz.ntmps40
 go_wp2
 go_loopw [5,6] (fun v5 v6 wr=>∃ (i:Nat) (v:Int),i≤n∧v6=.int .i64 i∧v5=.int .i64 v∧Hid (0≤v∧v≤most)∧Hid (bJ w wr)∧Hid (∀ c∈xss.take i,PL v c)) (fun _ v6 _=>n-(intOf v6).toNat)
 case atStart=>exact⟨0,0,Nat.zero_le _,rfl,rfl,(⟨Int.le_refl _,hm⟩:(0:Int)≤0∧(0:Int)≤most),bJ.refl w,(fun c hc=>(by rw[List.take_zero] at hc;cases hc):∀ c∈xss.take 0,PL 0 c)⟩
 case round =>
  obtain⟨i,v,hi,rfl,rfl,HV,HD,HI⟩:=hrel
  by_cases hin:i<n
  ·obtain⟨ab,ao,hA,hc⟩:=HR.out.cells (by omega);subst hA;obtain⟨Aj,cj,d0,kC⟩:=hc i hin;have htk:xss.take (i+1)=xss.take i++[gl xss i]:=lI xss i (by rw[HR.out.len];exact hin);obtain⟨xs,hxs⟩:∃ xs,gl xss i=xs:=⟨_,rfl⟩;obtain⟨ln,hln⟩:∃ ln,xs.length=ln:=⟨_,rfl⟩;rw[hxs,hln] at d0 kC;rw[hxs] at htk;have hls:=kC.small;have qH:=zH htk;have Gy:=zH kC;have fP:=zH hln;have HD0:=zH (show ∀ V,bJ w V→V.cell? ⟨ab,ao+i,none⟩=some (.slice Aj ln cj) from fun V hV=>by rw[←d0];unfold World.cell?;rw[hV.heap]);have d1:=HD0.out _ HD.out;have i0:(0:Int)≤(i:Int):=by omega
   have i1:(i:Int)<(n:Int):=by omega
   clear hc d0 htk kC hxs hln
   go_wp2
   go_loopw [5,7] (fun v5 v7 wr=>∃ (k:Nat) (v:Int),k≤ln∧v7=.int .i64 k∧v5=.int .i64 v∧Hid (0≤v∧v≤most)∧Hid (bJ w wr)∧Hid (∀ c∈xss.take i,PL v c)∧Hid (PL v (xs.take k))) (fun _ v7 _=>ln-(intOf v7).toNat)
   case atStart=>exact⟨0,v,Nat.zero_le _,rfl,rfl,HV.out,HD.out,HI.out,(fun x hx=>(by rw[List.take_zero] at hx;cases hx):PL v (xs.take 0))⟩
   case round =>
    obtain⟨k,v,hk,rfl,rfl,Qp,HD2,HI2,NQ⟩:=hrel;have d1:=HD0.out _ HD2.out
    by_cases hkn:k<ln
    ·obtain⟨bx,ox,hA,hcx⟩:=(Gy.out.drawn HD2.out).cells (by omega);subst hA;have d2:=hcx k hkn;have htk:=gV xs k (by rw[fP.out];exact hkn);obtain⟨x,hx⟩:∃ x,gi xs k=x:=⟨_,rfl⟩;rw[hx] at d2 htk;have HTJ:=zH htk;have k0:(0:Int)≤(k:Int):=by omega
     have k1:(k:Int)<(ln:Int):=by omega
     clear hcx htk hx;have hv2:=Qp.out
     by_cases h1:most<x
     ·have e1:decide (most<x)=true:=by simpa using h1
      go_wp2
      go_ret
      exact⟨most+1,rfl,HD2.out,by omega,fun h=>by omega⟩
     ·have e1:decide (most<x)=false:=by simpa using h1
      by_cases h2:x< -most
      ·have e2:decide (x< -most)=true:=by simpa using h2
       go_wp2
       go_ret
       exact⟨most+1,rfl,HD2.out,by omega,fun h=>by omega⟩
      ·have e2:decide (x< -most)=false:=by simp;omega
       have HM:=zH (show 0≤max (max v x) (-x)∧max (max v x) (-x)≤most by omega);clear hv2
       go_wp2
       go_roundw
       case rel =>
        refine⟨k+1,max (max v x) (-x),by omega,by go_num,(by rw[ano]),HM.out,HD2.out,(fun c hc=>(HI2.out c hc).mono (by omega):∀ c∈xss.take i,PL (max (max v x) (-x)) c),(?_:PL (max (max v x) (-x)) (xs.take (k+1)))⟩;rw[HTJ.out];exact NQ.out.snoc
       case measure=>simp[intOf];omega
    ·obtain rfl:k=ln:=by omega
     have hk2:=NQ.out;rw[List.take_of_length_le (by rw[fP.out];exact Nat.le_refl _)] at hk2;have Np:=zH hk2;have HD3:=zH HD2.out;clear hk2
     go_wp2
     go_roundw
     case rel =>
      refine⟨i+1,v,by omega,by go_num,rfl,Qp.out,HD3.out,(?_:∀ c∈xss.take (i+1),PL v c)⟩;intro c hc;rw[qH.out] at hc;rcases List.mem_append.1 hc with hc | hc
      ·exact HI2.out c hc
      ·rw[List.mem_singleton.1 hc];exact Np.out
     case measure=>simp[intOf];omega
  ·obtain rfl:i=n:=by omega
   have hi2:=HI.out;rw[List.take_of_length_le (by rw[HR.out.len];exact Nat.le_refl _)] at hi2;have HI2:=zH hi2;clear hi2
   go_wp2
   go_ret
   exact⟨v,rfl,HD.out,HV.out.1,fun _=>HI2.out⟩
end Go.Proofs.YthbbmdnfkkffjaaGreat
namespace Go.Proofs.YthbbmdnfkkffjaaGreat
open Go.RowKit Go.Proofs.aC Go.Proofs.aA
open Go.Proofs.au hiding SM
abbrev Stp:=Int×List Int
def rows (l:List Stp):List (List Int):=l.map (·.2)
def gs (l:List Stp) (k:Nat):Stp:=l.getD k (0,[])
theorem J8 (l:List Stp) (k:Nat) (h:k<l.length):gs l k=l[k]:=by simp[gs,h]
structure Uh (w:World) (A:Option Addr) (n:Nat) (l:List Stp):Prop where
 len:l.length=n
 small:n≤140737488355328
 cells:0<n→∃ b o,A=some ⟨b,o,none⟩∧∀ j,j<n→w.cell? ⟨b,o+j*2,none⟩=some (.int .i64 (gs l j).1)∧∃ Aj cj,w.cell? ⟨b,o+j*2+1,none⟩=some (.slice Aj (gs l j).2.length cj)∧Rd w Aj (gs l j).2.length (gs l j).2
theorem Uh.grow {w w':World} {A:Option Addr} {n:Nat} {l:List Stp} (h:Uh w A n l) (hb:Below w.heap.size w w'):Uh w' A n l:=by
 refine⟨h.len,h.small,fun hn=>?_⟩;obtain⟨b,o,e,hc⟩:=h.cells hn;refine⟨b,o,e,fun j hj=>?_⟩;obtain⟨h1,Aj,cj,h2,h3⟩:=hc j hj;exact⟨(hb.cell (World.block_lt_of_cell? w _ h1)).trans h1,Aj,cj,(hb.cell (World.block_lt_of_cell? w _ h2)).trans h2,h3.grow hb⟩
def qG (l:List Stp) (j:Nat):Nat:=((l.take j).map fun s=>s.2.length).sum
theorem jJ (l:List Stp) {j:Nat} (h:j<l.length):qG l (j+1)=qG l j+(gs l j).2.length:=by
 unfold qG;rw[List.take_succ_eq_append_getElem h,List.map_append,List.sum_append,J8 _ _ h];simp
theorem nM (l:List Stp) {i j:Nat} (h:i≤j):qG l i≤qG l j:=by
 induction j with
 | zero =>
  have:i=0:=by omega
  subst this;exact Nat.le_refl _
 | succ j ih =>
  by_cases e:i=j+1
  ·rw[e];exact Nat.le_refl _
  ·have h1:=ih (by omega)
   by_cases hj:j<l.length
   ·rw[jJ l hj];omega
   ·have:qG l (j+1)=qG l j:=by unfold qG;rw[List.take_of_length_le (by omega),List.take_of_length_le (by omega)]
    omega
structure ZW (l:List Stp) (vars:Int):Prop where
 n:l.length≤120
 sum:l.length+qG l l.length≤500
 vars:∀ s∈l,PL vars s.2
theorem rE (A:Option Addr) (n cap:Nat) (l:List Stp) (vars:Int) (w:World) (hr:Uh w A n l) (hv:0≤vars) (hv2:vars≤100000) :
  Calls Tryz.prog 16 #[.slice A n cap,.int .i64 vars] w fun e w'=>∃ b,e=.returned (.bool b)∧Below w.heap.size w w'∧(b=true→ZW l vars):=by
 have HR:=zH hr;have hsm:=hr.small;clear hr
 go_enter Tryz.func16,Tryz.ntmps16
 go_wp2
 go_loopw [5,6] (fun v5 v6 wr=>∃ (j s:Nat),j≤n∧v6=.int .i64 j∧v5=.int .i64 s∧s≤140737488355328+140737488355328∧Hid (s=n+qG l j)∧Hid (bJ w wr)) (fun _ v6 _=>n-(intOf v6).toNat)
 case atStart=>exact⟨0,n,Nat.zero_le _,rfl,rfl,by omega,(rfl:n=n+qG l 0),bJ.refl w⟩
 case round =>
  obtain⟨j,s,hj,rfl,rfl,hsb,HS,HD⟩:=hrel
  by_cases hjn:j<n
  ·have e1:decide ((j:Int)<(n:Int))=true:=by simp;omega
   by_cases hs5:s≤500
   ·have e2:decide ((s:Int)≤500)=true:=by simp;omega
    obtain⟨ab,ao,rfl,hc⟩:=(HR.out).cells (by omega);obtain⟨d0,Aj,cj,d1,kC⟩:=hc j hjn;have d2:wr.cell? ⟨ab,ao+j*2+1,none⟩=some (.slice Aj (gs l j).2.length cj):=by rw[←d1];unfold World.cell?;rw[HD.out.heap]
    have hls:=kC.small;have hsn:=jJ l (j:=j) (by rw[HR.out.len];exact hjn);obtain⟨ln,hln⟩:∃ ln,(gs l j).2.length=ln:=⟨_,rfl⟩;rw[hln] at d2 hls hsn;have HSN:=zH hsn;have p0:(0:Int)≤(j:Int):=by omega
    have p1:(j:Int)<(n:Int):=by omega
    clear hc d0 d1 kC hln hsn
    go_wp2
    go_roundw
    case rel=>exact⟨j+1,s+ln,by omega,by go_num,by go_num,by omega,(by have:=HS.out;have:=HSN.out;omega:s+ln=n+qG l (j+1)),HD.out⟩
    case measure=>simp[intOf];omega
   ·have e2:decide ((s:Int)≤500)=false:=by simp;omega
    have e3:decide (500<(s:Int))=true:=by simp;omega
    have HD2:=zH (HD.out.below w.heap.size)
    go_wp2
    go_ret
    exact⟨false,rfl,HD2.out,fun k=>by cases k⟩
  ·obtain rfl:j=n:=by omega
   have e1:decide ((j:Int)<(j:Int))=false:=by simp
   have HB:=zH (HD.out.below w.heap.size)
   by_cases hs5:500<s
   ·have e3:decide (500<(s:Int))=true:=by simp;omega
    go_wp2
    go_ret
    exact⟨false,rfl,HB.out,fun k=>by cases k⟩
   ·have e3:decide (500<(s:Int))=false:=by simp;omega
    by_cases hn:120<j
    ·have e4:decide (120<(j:Int))=true:=by simp;omega
     go_wp2
     go_ret
     exact⟨false,rfl,HB.out,fun k=>by cases k⟩
    ·have e4:decide (120<(j:Int))=false:=by simp;omega
     have hsum:j+qG l j≤500:=by have:=HS.out;omega
     have yS:=zH hsum;have H0:=zH ((St.none w 27).drawn HD.out);clear hsum hsb
     go_wp2
     go_loopw [7,8] (fun v7 v8 wq=>∃ (k:Nat) (a:Option Nat) (c:Nat) (V:List Value),k≤j∧v8=.int .i64 k∧v7=.slice (a.map fun b=>⟨b,0,none⟩) k c∧Hid (V.length=k)∧Hid (gY w V ((rows l).take k))∧Hid (St w.heap.size w wq (star (sl a k c 27 1 V) emp))) (fun _ v8 _=>j-(intOf v8).toNat)
     case atStart=>exact⟨0,none,0,[],Nat.zero_le _,rfl,rfl,(rfl:([]:List Value).length=0),gY.nil w,H0.out⟩
     case round =>
      clear H0 HB HD;obtain⟨k,a,c,V,hk,rfl,rfl,Qv,HV,HST⟩:=hrel;have hrl:(rows l).length=j:=by unfold rows;rw[List.length_map];exact HR.out.len
      by_cases hkj:k<j
      ·have e5:decide ((k:Int)<(j:Int))=true:=by simp;omega
       obtain⟨ab,ao,rfl,hc⟩:=(HR.out).cells (by omega);obtain⟨d0,Aj,cj,d1,kC⟩:=hc k hkj;have d2:=(HST.out.below.cell (World.block_lt_of_cell? w _ d1)).trans d1
       have hgl:gl (rows l) k=(gs l k).2:=by
        unfold gl rows gs;rw[List.getD_eq_getElem?_getD,List.getD_eq_getElem?_getD,List.getElem?_map,List.getElem?_eq_getElem (by rw[HR.out.len];exact hkj)];rfl
       have htk:(rows l).take (k+1)=(rows l).take k++[(gs l k).2]:=by rw[lI _ _ (by rw[hrl];exact hkj),hgl]
       obtain⟨s,hs⟩:∃ s,(gs l k).2=s:=⟨_,rfl⟩;rw[hs] at d2 kC htk;obtain⟨ln,hln⟩:∃ ln,s.length=ln:=⟨_,rfl⟩;have hvn:gY w (V++[.slice Aj ln cj]) ((rows l).take (k+1)):=by rw[htk];exact HV.out.snoc kC cj ln hln
       rw[hln] at d2;have HVN:=zH hvn;have p0:(0:Int)≤(k:Int):=by omega
       have p1:(k:Int)<(j:Int):=by omega
       clear hc d0 d1 kC hs htk hgl hln hvn hrl
       go_wp2_with (at_builtin;refine aO rfl _ _ 37 27 (.slice none 0 0) 24 rfl Tryz.underlying37 Tryz.jB rfl HST.out rfl (.slice Aj ln cj) rfl rfl (by omega) (by simp only[maxLen];omega) ?_;intro b' c' w4 h4;have H4:=zH h4;clear h4)
       go_roundw
       case rel=>exact⟨k+1,some b',c',V++[Value.slice Aj ln cj],by omega,by go_num,rfl,zH (by rw[List.length_append,Qv.out];rfl),HVN,H4⟩
       case measure=>simp[intOf];omega
      ·obtain rfl:k=j:=by omega
       have e5:decide ((k:Int)<(k:Int))=false:=by simp
       have afz:=HV.out.grow HST.out.below;rw[List.take_of_length_le (by omega)] at afz;have hrd:=afz.tQ HST.out (by omega);have HVA:=zH (ZV _ k c (rows l) vars wr hrd hv hv2);have HB:=zH HST.out.below;have UD:=zH HST.out.base;obtain⟨A7,hA7⟩:∃ A,(a.map fun b=>(⟨b,0,none⟩:Addr))=A:=⟨_,rfl⟩;rw[hA7] at HVA ⊢;clear afz hrd hA7 hrl
       go_wp2_with fail
       refine HVA.out.mono ?_
       rintro e w5 ⟨v,rfl,hd,_,hle⟩
       have HB5:=zH (HB.out.trans (hd.below _));have Jh:=zH hle;clear hd hle HVA
       go_wp2
       go_ret
       refine⟨decide (v≤vars),rfl,HB5.out,fun kk=>⟨by rw[HR.out.len];omega,by rw[HR.out.len];exact yS.out,fun s hs=>?_⟩⟩;have h1:=Jh.out (by simpa using kk) s.2 (by unfold rows;exact List.mem_map_of_mem hs);exact h1.mono (by simpa using kk)
theorem J9:∀ (l:List Int),l.Nodup→(∀ x∈l,x≠0)→(∀ x∈l,-x∉l)→(l.map Int.natAbs).Nodup
 | [],_,_,_=>List.nodup_nil
 | x :: r,hn,h0,hb=>by
  rw[List.nodup_cons] at hn;rw[List.map_cons,List.nodup_cons];refine⟨fun hm=>?_,J9 r hn.2 (fun y hy=>h0 y (by simp[hy])) fun y hy hm=>hb y (by simp[hy]) (by simp[hm])⟩;obtain⟨y,hy,e⟩:=List.mem_map.1 hm;have hx0:=h0 x (by simp);have hcase:y=x∨y=-x:=by omega
  rcases hcase with rfl | rfl
  ·exact hn.1 hy
  ·exact hb x (by simp) (by simp[hy])
theorem Ch {xs:List Int} (h:dx xs=0):Gc (bQ xs)∧∀ x∈xs,fC x=true:=by
 unfold dx at h
 split at h
 ·rename_i ha
  split at h
  ·cases h
  ·rename_i hb;have hal:∀ x∈xs,fC x=true:=List.all_eq_true.1 ha;refine⟨⟨J9 _ (qD xs [] List.nodup_nil) (fun x hx=>?_) fun x hx hm=>hb ?_,fun x hx=>?_⟩,hal⟩
   ·have:=bD.1 (hal x (dA.1 hx));exact this.1
   ·unfold Au;rw[List.any_eq_true];exact⟨x,dA.1 hx,by simpa using dA.1 hm⟩
   ·have:=bD.1 (hal x (dA.1 hx));omega
 ·cases h
structure afA (K:Nat) (S:aA.SM) (xs:List Int) (R:aA.SM×Int):Prop where
 zs:Zs K R.1
 le:S.value.length≤R.1.value.length
 yes:R.2=0→dx xs=0∧R.1.given=S.given++[bQ xs]∧R.1.words=S.words+((bQ xs).length+2)
 no:R.2≠0→R.1=S∧((R.2=dx xs∧dx xs≠0)∨(dx xs=0∧R.2=111∧S.most<S.words+(bQ xs).length+2))
 cm:R.1.most=S.most∧R.1.conf=S.conf
 rest:R.1.learned=S.learned∧R.1.model=S.model∧R.1.told=S.told∧R.1.core=S.core
 cls:R.1.cls=S.cls
theorem rF {K:Nat} {S:aA.SM} (h:Zs K S) (xs:List Int):(dx xs=0→Rw S (bQ xs))∧afA K S xs (fU S xs):=by
 by_cases h0:dx xs=0
 ·obtain⟨a,b⟩:=h.add (Ch h0).1;refine⟨fun _=>a,?_⟩;unfold fU;rw[if_pos h0];obtain⟨R,hR⟩:∃ R,S.add (bQ xs)=R:=⟨_,rfl⟩;rw[hR] at b ⊢
  cases hb:R.2 with
  | true =>
   rw[if_pos rfl];exact⟨b.zs,b.le,fun _=>⟨h0,(b.yes hb).1,(b.yes hb).2⟩,fun k=>absurd rfl k,b.same,b.rest,b.cls⟩
  | false =>
   rw[if_neg (by simp)];refine⟨b.zs,b.le,fun k=>(by cases k),fun _=>⟨b.no hb,.inr ⟨h0,rfl,?_⟩⟩,b.same,b.rest,b.cls⟩;apply Classical.byContradiction;intro k;have:=b.num.2 (by omega);rw[hb] at this;cases this
 ·refine⟨fun k=>absurd k h0,?_⟩;unfold fU;rw[if_neg h0];exact⟨h,Nat.le_refl _,fun k=>absurd k h0,fun _=>⟨rfl,.inl ⟨rfl,h0⟩⟩,⟨rfl,rfl⟩,⟨rfl,rfl,rfl,rfl⟩,rfl⟩
theorem fO {K:Nat} {S:aA.SM} (h:Zs K S) (hk:K<100000) {xs:List Int} (hl:xs.length≤600000) (ha:xs.all fC=true) :
  BI S xs∧Zs (K+1) (bK S xs).1∧Answer xs S (bK S xs).1 (bK S xs).2.1 (bK S xs).2.2:=by
 unfold bK;rw[if_pos ha];exact h.solve hk hl fun a hm=>by have:=bD.1 (List.all_eq_true.1 ha a hm);omega
theorem Answer.short {asm:List Int} {S T:aA.SM} {v e:Int} (h:Answer asm S T v e) {K:Nat} (hz:Zs K T):T.learned.length≤2000∧∀ c∈T.learned,c.length≤65537:=by
 refine⟨Nat.le_trans h.lc hz.ze.cf,fun c hc=>?_⟩;obtain⟨d,rfl,h1,h2,_⟩:=h.ln c hc
 have:=jd (n:=T.value.length) h1 fun v hv=>by
  obtain⟨x,hx,rfl⟩:=List.mem_map.1 hv;exact (h2 x hx).2
 rw[List.length_map] at this ⊢;have:=hz.vs;omega
theorem lH {v:Int} {c:List Int} (hv:v≤65536) (h:PL v c) (h0:hasB c 0=false):c.all fC=true:=by
 rw[List.all_eq_true];intro x hx;have h1:=h x hx
 have hx0:x≠0:=fun e=>by
  have:=dO.2 (e▸hx);rw[h0] at this;cases this
 rw[bD];omega
section
variable {B:Nat} {w0:World} {F:HP}
theorem fM.aii {A:Option Addr} {n:Nat} {xs:List Int} (h:Rd w0 A n xs) (hB:w0.heap.size≤B):fM B w0 F A n xs:=fun _ _ k=>h.grow (k.below.mono hB)
end
end Go.Proofs.YthbbmdnfkkffjaaGreat
namespace Go.Proofs.aC
open Go Go.RowKit Go.ChangeShapes Go.WideShapes Go.ChangeAt Go.Deep Go.Proofs.au
theorem wR {H:Type} {P:Program} {e:TypeId}:∀ {ds:List (DataW H)} {d:DataW H},d∈ds→∀ n∈d.weights P e,n∈DataW.weightsAll P e ds
 | x :: r,d,hd,n,hn=>by
  simp only[DataW.weightsAll,List.mem_append];rcases List.mem_cons.1 hd with rfl | h
  ·exact Or.inl hn
  ·exact Or.inr (wR h n hn)
theorem Ka {w:World} {a:Addr} {v:Value} (h:w.cell? a=some v):a=⟨a.block,a.off,none⟩:=by
 unfold World.cell? at h
 cases a with
 | mk b o s =>
  cases s with
  | none=>rfl
  | some x =>
   simp only at h
   split at h
   ·simp at h
   ·cases h
theorem PN (b o j:Nat):(⟨b,o,none⟩:Addr).add j=⟨b,o+j,none⟩:=by
 unfold Addr.add
 split <;> simp_all
section
variable {H:Type} {enc:TypeId×Value→H} {P:Program} {W:World} {base:Nat} {a:Option Addr} {len cap:Nat} {d:DataW H} {ps:List MemPlace} {ts:List TypeId} {ds:List (DataW H)} {j:Nat}
end
end Go.Proofs.aC
namespace Go.Proofs.YthbbmdnfkkffjaaGreat
open Go Go.RowKit Go.ChangeShapes Go.WideShapes Go.ChangeAt Go.Deep Go.Proofs.aC Go.Proofs.aA
open Go.Proofs.au hiding SM
section
variable {H:Type} {enc:TypeId×Value→H} {P:Program} {W:World} {base:Nat} {a:Option Addr} {len cap:Nat} {d:DataW H} {ps:List MemPlace} {ts:List TypeId} {ds:List (DataW H)} {j:Nat}
theorem Sw (h:(DataW.weightsEach P ts ds).all (·≤reachBytes)=true) {t e q:TypeId} {f0 f1:Field} {elems spare e' sp':List (DataW H)} {D0:DataW H}
  (ht:ts[j]?=some t) (hd:ds[j]?=some (.slice elems spare)) (hu:P.underlying t=some (.slice e)) (hu2:P.underlying e=some (.struct #[f0,f1])) (hu3:P.underlying f1.type=some (.slice q)) (hx:DataW.agg [D0,.slice e' sp']∈elems):(e'.length+sp'.length)*P.bytesOf q≤reachBytes:=by
 refine of_decide_eq_true (List.all_eq_true.1 h _ (DataW.weights_mem_each ht hd _ ?_));simp only[DataW.weights,hu,List.mem_cons,List.mem_append];exact Or.inr (Or.inl (wR hx _ (by simp[DataW.weights,DataW.weightsEach,hu2,hu3])))
theorem pG {t e q:TypeId} {f0 f1:Field} (hsz:(DataW.weightsEach P ts ds).all (·≤reachBytes)=true) (ht:ts[j]?=some t) (hd:ds[j]?=some d) (hu:P.underlying t=some (.slice e)) (he:P.underlying e=some (.struct #[f0,f1])) (ce:P.cellsOf e=2) (o0:f0.offset=0) (o1:f1.offset=1) (c0:P.cellsOf f0.type=1) (c1:P.cellsOf f1.type=1)
  (h0:P.underlying f0.type=some (.int .i64)) (h1:P.underlying f1.type=some (.slice q)) (hq:P.underlying q=some (.int .i64)) (cq:P.cellsOf q=1) (hB:P.bytesOf e=32) (hBq:P.bytesOf q=8)
  (h:DataW.Trod enc P W base (fun _=>true) true t (.slice a len cap) d ps):∃ l,Uh W a len l:=by
 obtain⟨fuel,hf⟩:=h;rcases open_slice_pairs hu he ce o0 o1 c0 c1 hf with ⟨hcs,_⟩ | ⟨x,l,c,m,n,V0,V1,D0,D1,P0,P1,hcs,_,hl,_,hm,hx,hcell⟩
 ·simp[Value.cells] at hcs;obtain⟨rfl,rfl,rfl⟩:=hcs;exact⟨[],⟨rfl,Nat.zero_le _,fun h=>absurd h (by omega)⟩⟩
 ·simp[Value.cells] at hcs;obtain⟨rfl,rfl,rfl⟩:=hcs;obtain⟨hx,_⟩:=Prod.mk.inj hx;subst hx;simp only[if_true] at hm;subst hm;have z:=sized_slice hsz ht hd hu;rw[hB] at z;simp only[List.length_map,List.length_range] at z;have hr:reachBytes=140737488351232:=rfl
  have each:∀ i,i<len→∃ y:Int×List Int×Option Addr×Nat,W.cell? (x.add (i*2))=some (.int .i64 y.1)∧W.cell? (x.add (i*2+1))=some (.slice y.2.2.1 y.2.1.length y.2.2.2)∧Rd W y.2.2.1 y.2.1.length y.2.1:=fun i hi=>by
   obtain⟨k1,k2,k3,k4⟩:=hcell i (by omega);obtain⟨v,e1,_,_⟩:=DataW.trod_int h0 k3;simp only[List.cons.injEq,and_true] at e1;rw[e1] at k1;have hin:DataW.agg [D0 i,D1 i]∈(List.range len).map fun i=>DataW.agg [D0 i,D1 i]:=List.mem_map.2 ⟨i,by simpa using hi,rfl⟩;rcases open_ints h1 hq cq k4 with ⟨hc2,hy⟩ | ⟨a',len',cap',zs,hc2,hb',hl',hm',hz,hy,hcl,hwz⟩
   ·simp only[List.cons.injEq,and_true] at hc2;rw[hc2] at k2;exact⟨(v,[],none,0),k1,k2,⟨rfl,Nat.zero_le _,fun h=>absurd h (Nat.lt_irrefl 0)⟩⟩
   ·simp only[List.cons.injEq,and_true] at hc2;rw[hc2] at k2;simp only[if_true] at hz;simp only[Prod.mk.injEq] at hy;rw[hy.1] at hin;have z2:=Sw hsz ht hd hu he h1 hin;rw[hBq] at z2
    have h3:(lits (H:=H) .i64 (zs.take len')).length+(lits (H:=H) .i64 (zs.drop len')).length=zs.length:=by
     simp[lits];omega
    rw[h3] at z2;have hL:(zs.take len').length=len':=by rw[List.length_take];omega
    refine⟨(v,zs.take len',some a',cap'),k1,by rw[hL];exact k2,⟨rfl,by rw[hL];omega,fun hp=>?_⟩⟩;have h00:=hcl 0 (by rw[hL] at hp;omega);have hs':a'=⟨a'.block,a'.off,none⟩:=Ka (by simpa [Addr.add] using h00);refine⟨a'.block,a'.off,by rw[←hs'],fun jj hj=>?_⟩;rw[hL] at hj;have:=hcl jj (by omega);rw[hs',PN] at this;rw[this];simp[gi,List.getD_eq_getElem?_getD,hj]
  obtain⟨y,hy⟩:=choose_lt each;have hg:∀ i,i<len→gs ((List.range len).map fun i=>((y i).1,(y i).2.1)) i=((y i).1,(y i).2.1):=fun i hi=>by simp[gs,List.getD_eq_getElem?_getD,hi]
  refine⟨(List.range len).map fun i=>((y i).1,(y i).2.1),⟨by simp,by omega,fun hp=>?_⟩⟩;have h00:=(hy 0 hp).1;have hs:x=⟨x.block,x.off,none⟩:=Ka (by simpa [Addr.add] using h00);refine⟨x.block,x.off,by rw[←hs],fun i hi=>?_⟩;obtain⟨k1,k2,k3⟩:=hy i hi;rw[hs,PN] at k1 k2;rw[hg i hi];exact⟨k1,_,_,k2,k3⟩
end
end Go.Proofs.YthbbmdnfkkffjaaGreat
namespace Go.Proofs.YthbbmdnfkkffjaaGreat
open Go.RowKit Go.Proofs.aC Go.Proofs.aA
open Go.Proofs.au hiding SM
theorem ZX {c:List Nat} (h:(c.map (·/2)).Nodup) {x y:Nat} (hx:x∈c) (hy:y∈c) (e:x/2=y/2):x=y:=by
 induction c with
 | nil=>cases hx
 | cons z r ih =>
  rw[List.map_cons,List.nodup_cons] at h;rcases List.mem_cons.1 hx with h1 | h1 <;> rcases List.mem_cons.1 hy with h2 | h2
  ·rw[h1,h2]
  ·exact absurd (List.mem_map.2 ⟨y,h2,by rw[←e,h1]⟩) h.1
  ·exact absurd (List.mem_map.2 ⟨x,h1,by rw[e,h2]⟩) h.1
  ·exact ih h.2 h1 h2
theorem G7 {c:List Nat} (h:(c.map (·/2)).Nodup):c.Nodup:=by
 induction c with
 | nil=>exact List.nodup_nil
 | cons z r ih =>
  rw[List.map_cons,List.nodup_cons] at h;rw[List.nodup_cons];exact⟨fun hz=>h.1 (List.mem_map.2 ⟨z,hz,rfl⟩),ih h.2⟩
def wS (c:List Nat):Nat→Nat
 | 0=>0
 | v+1=>wS c v+3 ^ v*(if 2*(v+1)∈c then 1 else if 2*(v+1)+1∈c then 2 else 0)
theorem AV (c:List Nat):∀ v,wS c v<3 ^ v
 | 0=>by simp[wS]
 | v+1=>by
  have:=AV c v;unfold wS;rw[Nat.pow_succ]
  split
  ·omega
  ·split <;> omega
theorem Kc {c d:List Nat} (hc:(c.map (·/2)).Nodup) (hd:(d.map (·/2)).Nodup):∀ v,wS c v=wS d v→∀ x,2≤x→x/2≤v→(x∈c↔x∈d)
 | 0,_,x,h2,hx=>by omega
 | v+1,he,x,h2,hx=>by
  have l1:=AV c v;have l2:=AV d v
  have nb:∀ {e:List Nat},(e.map (·/2)).Nodup→2*(v+1)∈e→2*(v+1)+1∈e→False:=fun hn a b=>by
   have:=ZX hn a b (by omega);omega
  unfold wS at he
  have key:wS c v=wS d v∧((2*(v+1)∈c↔2*(v+1)∈d)∧(2*(v+1)+1∈c↔2*(v+1)+1∈d)):=by
   generalize 3 ^ v=p at he l1 l2
   by_cases a1:2*(v+1)∈c <;> by_cases a2:2*(v+1)∈d <;> by_cases b1:2*(v+1)+1∈c <;> by_cases b2:2*(v+1)+1∈d <;> simp only[a1,a2,b1,b2,if_true,if_false,iff_true,iff_false,not_true,and_true,and_false] at he ⊢ <;> first | omega | exact absurd b1 (fun b=>nb hc a1 b) | exact absurd b2 (fun b=>nb hd a2 b)
  by_cases e:x/2=v+1
  ·have:x=2*(v+1)∨x=2*(v+1)+1:=by omega
   rcases this with rfl | rfl
   ·exact key.2.1
   ·exact key.2.2
  ·exact Kc hc hd v key.1 x h2 (by omega)
theorem Sy {n:Nat} {E:List (List Nat)} (pw:E.Pairwise fun c d=>¬ c.Perm d) (hn:∀ c∈E,(c.map (·/2)).Nodup) (hv:∀ c∈E,∀ x∈c,2≤x∧x/2≤n):E.length≤3 ^ n:=by
 have:(E.map fun c=>wS c n).Nodup:=by
  rw[List.Nodup,List.pairwise_map];refine List.Pairwise.imp_of_mem (fun {c d} hc hd hp e=>hp ?_) pw;rw[List.perm_ext_iff_of_nodup (G7 (hn c hc)) (G7 (hn d hd))];intro x
  by_cases hx:2≤x∧x/2≤n
  ·exact Kc (hn c hc) (hn d hd) n e x hx.1 hx.2
  ·exact⟨fun k=>absurd (hv c hc x k) hx,fun k=>absurd (hv d hd x k) hx⟩
 have:=jd this fun x hx=>by
  obtain⟨c,_,rfl⟩:=List.mem_map.1 hx;exact AV c n
 simpa using this
theorem acs {E:List (List Nat)} {n:Nat} (h:∀ c∈E,c.length≤n):(E.map fun c=>c.length+2).sum≤E.length*(n+2):=by
 induction E with
 | nil=>simp
 | cons c r ih =>
  have h1:=h c (by simp);have h2:=ih fun d hd=>h d (by simp[hd]);rw[List.map_cons,List.sum_cons,List.length_cons,Nat.succ_mul];omega
structure IE (n:Nat) (S:aA.SM) (E:List (List Nat)) (g:Nat):Prop where
 pw:E.Pairwise fun c d=>¬ c.Perm d
 at_:∀ c∈E,∃ r,r<S.cls.length∧(S.cl r).Perm c
 nd:∀ c∈E,(c.map (·/2)).Nodup
 vs:∀ c∈E,∀ x∈c,2≤x∧x/2≤n
 gv:∀ c∈S.given,∀ x∈c,0<x.natAbs∧x.natAbs≤n
 ww:S.words≤g+(E.map fun c=>c.length+2).sum
theorem yV {d:List Nat} {n:Nat} (hn:(d.map (·/2)).Nodup) (hv:∀ x∈d,1≤x/2∧x/2≤n):d.length≤n:=by
 have h0:(0 :: d.map (·/2)).Nodup:=by
  rw[List.nodup_cons];refine⟨fun hm=>?_,hn⟩;obtain⟨x,hx,e⟩:=List.mem_map.1 hm;have:=(hv x hx).1;omega
 have h1:=jd (n:=n+1) h0 fun v hm=>by
  rcases List.mem_cons.1 hm with rfl | hm
  ·omega
  ·obtain⟨x,hx,rfl⟩:=List.mem_map.1 hm;have:=(hv x hx).2;omega
 simp at h1;exact h1
theorem IE.short {n g:Nat} {S:aA.SM} {E:List (List Nat)} (h:IE n S E g):∀ c∈E,c.length≤n:=fun c hc=>yV (h.nd c hc) fun x hx=>by have:=h.vs c hc x hx;omega
theorem IE.few {n g:Nat} {S:aA.SM} {E:List (List Nat)} (h:IE n S E g):E.length≤3 ^ n∧S.words≤g+3 ^ n*(n+2):=by
 have h1:=Sy h.pw h.nd h.vs;have h2:=acs h.short;have h3:=h.ww;have h4:=Nat.mul_le_mul_right (n+2) h1;exact⟨h1,by omega⟩
theorem IE.more {n g g2:Nat} {S:aA.SM} {E:List (List Nat)} (h:IE n S E g) (hg:g≤g2):IE n S E g2:=⟨h.pw,h.at_,h.nd,h.vs,h.gv,by have:=h.ww;omega⟩
theorem G8 (xs:List Int):(bQ xs).length≤xs.length:=nK (CJ xs) fun _ h=>dA.1 h
theorem IE.add {n g K:Nat} {S:aA.SM} {E:List (List Nat)} (h:IE n S E g) {xs:List Int} {R:aA.SM×Int} (a:afA K S xs R) (hv:∀ x∈xs,x.natAbs≤n):IE n R.1 E (g+(xs.length+2)):=by
 refine⟨h.pw,fun c hc=>?_,h.nd,h.vs,fun c hc x hx=>?_,?_⟩
 ·obtain⟨r,hr,hp⟩:=h.at_ c hc;unfold aA.SM.cl at hp ⊢;rw[a.cls];exact⟨r,hr,hp⟩
 ·by_cases h0:R.2=0
  ·obtain⟨k1,k2,_⟩:=a.yes h0;rw[k2] at hc;rcases List.mem_append.1 hc with k | k
   ·exact h.gv c k x hx
   ·rw[List.mem_singleton] at k;subst k;have m:=dA.1 hx;exact⟨((Ch k1).1.2 x hx).1,hv x m⟩
  ·rw[(a.no h0).1] at hc;exact h.gv c hc x hx
 ·have:=h.ww
  by_cases h0:R.2=0
  ·have h2:=(a.yes h0).2.2;have:=G8 xs;omega
  ·rw[(a.no h0).1];omega
theorem IE.solve {n g:Nat} {S T:aA.SM} {E:List (List Nat)} (h:IE n S E g) {xs:List Int} {v e:Int} (a:Answer xs S T v e):∃ E2,IE n T (E++E2) g∧T.learned=E2.map (fun c=>c.map aA.bI)∧∀ c∈E2,(∀ d∈S.given,¬ (d.map aJ).Perm c):=by
 obtain⟨E2,e1,e2,e3,e4,e5,e6,e7⟩:=a.nw;have hvg:=e6 (fun v=>0<v∧v≤n) h.gv;refine⟨E2,⟨List.pairwise_append.2 ⟨h.pw,e2,fun c hc d hd hp=>?_⟩,fun c hc=>?_,fun c hc=>?_,fun c hc=>?_,by rw[a.given];exact h.gv,?_⟩,e1,e7⟩
 ·obtain⟨r,hr,hp2⟩:=h.at_ c hc;exact e3 d hd r hr (hp2.trans hp)
 ·rcases List.mem_append.1 hc with k | k
  ·obtain⟨r,hr,hp⟩:=h.at_ c k;obtain⟨u,w⟩:=a.held r hr;exact⟨r,u,w.trans hp⟩
  ·exact e4 c k
 ·rcases List.mem_append.1 hc with k | k
  ·exact h.nd c k
  ·exact (e5 c k).1
 ·rcases List.mem_append.1 hc with k | k
  ·exact h.vs c k
  ·intro x hx;have:=hvg c k x hx;omega
 ·have h1:=a.words;have h2:=h.ww
  have h3:lw T=(E2.map fun c=>c.length+2).sum:=by
   unfold lw;rw[e1,List.map_map]
   congr 1
   exact List.map_congr_left fun c _=>by simp
  rw[List.map_append,List.sum_append];omega
theorem IE.tells {n g:Nat} {S T:aA.SM} {E:List (List Nat)} (h:IE n S E g) {xs:List Int} {v e:Int} (a:Answer xs S T v e) (hm:g+3 ^ n*(n+2)+(n+2)≤S.most):(v=1∧e=0)∨(v=2∧e=0)∨(v=0∧e=131∧S.conf≤3 ^ n):=by
 obtain⟨E2,k1,k2,_⟩:=h.solve a;obtain⟨f1,f2⟩:=k1.few;rcases a.out with ⟨p,q,_⟩ | ⟨p,q,_⟩ | ⟨p,_,_,q⟩
 ·exact .inl ⟨p,q⟩
 ·exact .inr (.inl ⟨p,q⟩)
 ·rcases q with ⟨q,r⟩ | ⟨_,_,d,r,nd,vd⟩
  ·refine .inr (.inr ⟨p,q,?_⟩);rw[k2,List.length_map,a.cm.1] at r;rw[List.length_append] at f1;omega
  ·exfalso
   have:=yV (n:=n) nd fun x hx=>by
    have:=vd (fun v=>0<v∧v≤n) h.gv x hx;exact⟨this.1,this.2⟩
   rw[a.cm.2] at r;omega
theorem IE.start (n:Nat) (m c:Int):IE n (aA.SM.new m c) [] 0 :=
 ⟨List.Pairwise.nil,fun c k=>(by cases k),fun c k=>(by cases k),fun c k=>(by cases k),fun c k=>(by cases k),Nat.le_refl _⟩
end Go.Proofs.YthbbmdnfkkffjaaGreat
namespace Go.Proofs.au
open Go.Proofs.aC (zeros)
end Go.Proofs.au
namespace Go.Proofs.au
def AX (f:Nat→Bool) (x:Int):Bool:=f x.natAbs==decide (0<x)
def Ke (f:Nat→Bool) (c:List Int):Bool:=c.any (AX f)
def allT (f:Nat→Bool) (G:List (List Int)):Bool:=G.all (Ke f)
theorem LH {f:Nat→Bool} {c:List Int}:Ke f c=true↔∃ x∈c,AX f x=true:=by simp[Ke]
end Go.Proofs.au

/-
  SatNames: the contract of the law package's solver, told by what it was given; the law's walk.
-/
import Derived.Test.YthbbmdnfkkffjaaGreatYSnP
import Derived.Test.YthbbmdnfkkffjaaGreatYTwo
import Derived.Test.YthbbmdnfkkffjaaGreatYSp1
import Derived.Test.YthbbmdnfkkffjaaGreatY01
set_option maxHeartbeats 8000000
set_option maxRecDepth 100000
namespace Go.Proofs.YthbbmdnfkkffjaaGreat
open Go.RowKit Go.Proofs.aC Go.Proofs.aA
open Go.Proofs.au hiding SM
def stepsP (l:List Stp) (i:Nat) (x:List Int):Prop:=∃ j,j<i∧(gs l j).1<2∧x=(gs l j).2
theorem stepsP_succ {l:List Stp} {i:Nat} {s:Stp} (h:gs l i=s) (hx:s.1<2) {x:List Int}:(stepsP l i x∨x=s.2)↔stepsP l (i+1) x:=by
 constructor
 ·rintro (⟨j,h1,h2⟩ | rfl)
  ·exact⟨j,by omega,h2⟩
  ·exact⟨i,by omega,by rw[h];exact hx,by rw[h]⟩
 ·rintro⟨j,h1,h2,h3⟩
  by_cases e:j=i
  ·subst e;rw[h] at h3;exact .inr h3
  ·exact .inl ⟨j,by omega,h2,h3⟩
theorem stepsP_skip {l:List Stp} {i:Nat} {s:Stp} (h:gs l i=s) (hx:¬ s.1<2) {x:List Int}:stepsP l i x↔stepsP l (i+1) x:=by
 constructor
 ·rintro⟨j,h1,h2⟩
  exact⟨j,by omega,h2⟩
 ·rintro⟨j,h1,h2,h3⟩
  by_cases e:j=i
  ·subst e;rw[h] at h2;exact absurd h2 hx
  ·exact⟨j,by omega,h2,h3⟩
def namedP (turn add:Int) (l:List Stp) (n k:Nat) (x:List Int):Prop:=∃ j,k≤j∧j<n∧(gs l j).1<2∧x=rnC turn add (gs l j).2
theorem namedP_succ {turn add:Int} {l:List Stp} {n i:Nat} {s:Stp} (hi:i<n) (h:gs l i=s) (hx:s.1<2) {x:List Int}:(namedP turn add l n (i+1) x∨x=rnC turn add s.2)↔namedP turn add l n i x:=by
 constructor
 ·rintro (⟨j,h1,h2⟩ | rfl)
  ·exact⟨j,by omega,h2⟩
  ·exact⟨i,by omega,hi,by rw[h];exact hx,by rw[h]⟩
 ·rintro⟨j,h0,h1,h2,h3⟩
  by_cases e:j=i
  ·subst e;rw[h] at h3;exact .inr h3
  ·exact .inl ⟨j,by omega,h1,h2,h3⟩
theorem namedP_skip {turn add:Int} {l:List Stp} {n i:Nat} {s:Stp} (h:gs l i=s) (hx:¬ s.1<2) {x:List Int}:namedP turn add l n (i+1) x↔namedP turn add l n i x:=by
 constructor
 ·rintro⟨j,h0,h2⟩
  exact⟨j,by omega,h2⟩
 ·rintro⟨j,h0,h1,h2,h3⟩
  by_cases e:j=i
  ·subst e;rw[h] at h2;exact absurd h2 hx
  ·exact⟨j,by omega,h1,h2,h3⟩
theorem rnC_drop (turn add:Int) (c:List Int) {k:Nat} (h:k<c.length):rnC turn add (c.drop k)=rnC turn add (c.drop (k+1))++[Qe turn add (gi c k)]:=by
 unfold rnC;rw[List.drop_eq_getElem_cons h,List.map_cons,List.reverse_cons,dh _ _ h]
theorem rnC_len (turn add:Int) (c:List Int):(rnC turn add c).length=c.length:=by unfold rnC;simp
theorem solverG_any (A:Option Addr) (n cap:Nat) (l:List Stp) (v:Int) (w:World) (hr:Uh w A n l) (hl:ZW l v) :
  Calls Tryz.prog 25 #[.slice A n cap] w fun e w'=>∃ q S,e=.returned (.pointer (some ⟨q,0,none⟩))∧bL w.heap.size w w' q S emp∧Zs 0 S∧Wu (stepsP l n) S 740:=by
 have HR:=zH hr;have hn:n≤120:=by have:=hl.n;rw[hr.len] at this;exact this
 have Db:=zH hl;clear hr hl
 go_enter Tryz.func25,Tryz.ntmps25
 go_wp2_with fail
 refine (lC 262144 2000 w).mono ?_
 rintro e w3 ⟨q,rfl,h3⟩
 have H3:=zH h3;clear h3
 go_wp2
 go_loopw [4] (fun v4 wr=>∃ (i:Nat) (S:aA.SM),i≤n∧v4=.int .i64 i∧Hid (Zs 0 S)∧Hid (Wu (stepsP l i) S (qG l i+2*i))∧Hid (S.most=262144)∧Hid (bL w.heap.size w wr q S emp)) (fun v4 _=>n-(intOf v4).toNat)
 case atStart=>exact⟨0,aA.SM.new 262144 2000,Nat.zero_le _,rfl,(BL 262144 2000).1,(Wu.start 262144 2000).mono (fun x=>⟨fun h=>h.elim,fun ⟨j,hj,_⟩=>absurd hj (Nat.not_lt_zero _)⟩) (Nat.zero_le _),zH rfl,H3.out⟩
 case round =>
  clear H3;obtain⟨i,S,hi,rfl,HZ,HG,HM,HS⟩:=hrel
  by_cases hin:i<n
  ·have e1:decide ((i:Int)<(n:Int))=true:=by simp;omega
   obtain⟨ab,ao,rfl,hc⟩:=HR.out.cells (by omega);obtain⟨LM,Aj,cj,dd1,pI⟩:=hc i hin;have d0:=(HS.out.below.cell (World.block_lt_of_cell? w _ LM)).trans LM;have d1:=(HS.out.below.cell (World.block_lt_of_cell? w _ dd1)).trans dd1;have kC:=pI.grow HS.out.below;obtain⟨s,hs⟩:∃ s,gs l i=s:=⟨_,rfl⟩
   have hls:s.2.length≤500:=by
    have h1:=jJ l (j:=i) (by rw[HR.out.len];exact hin);have h2:=nM l (show i+1≤l.length by rw[HR.out.len];omega);have h3:=Db.out.sum;rw[hs] at h1;omega
   have hsu:qG l (i+1)=qG l i+s.2.length:=by rw[←hs];exact jJ l (by rw[HR.out.len];exact hin)
   have hgn:qG l (i+1)+2*(i+1)≤740:=by
    have h1:=nM l (show i+1≤l.length by rw[HR.out.len];omega);have h2:=Db.out.sum;omega
   have HGI:=zH hs;rw[hs] at d0 d1 kC;obtain⟨ln,hln⟩:∃ ln,s.2.length=ln:=⟨_,rfl⟩;rw[hln] at d1 kC hls;have Gy:=zH kC;have p0:(0:Int)≤(i:Int):=by omega
   have p1:(i:Int)<(n:Int):=by omega
   clear hc hs kC hln LM dd1 pI
   by_cases hx:s.1<2
   ·have e2:decide (s.1<2)=true:=by simpa using hx
    obtain⟨a1,a2⟩:=rF HZ.out s.2;have HAD:=zH (lD Aj ln cj s.2 HS.out Gy.out (by omega) a1);have HZ2:=zH a2.zs;have HG2:=zH (show Wu (stepsP l (i+1)) (fU S s.2).1 (qG l (i+1)+2*(i+1)) from (HG.out.add a2 (by rw[HM.out];omega)).mono (fun x=>stepsP_succ HGI.out hx) (by omega));have uf:=zH (show (fU S s.2).1.most=262144 by rw[a2.cm.1];exact HM.out);clear a1 a2 hsu hgn
    go_wp2_with fail
    refine HAD.out.mono ?_
    rintro e w5 ⟨rfl,h5⟩
    have H5:=zH h5;clear h5 HAD
    go_wp2
    go_roundw
    case rel=>exact⟨i+1,_,by omega,by go_num,HZ2.out,HG2.out,uf.out,H5.out⟩
    case measure=>simp[intOf];omega
   ·have e2:decide (s.1<2)=false:=by simpa using hx
    go_wp2
    go_roundw
    case rel=>exact⟨i+1,S,by omega,by go_num,HZ.out,HG.out.mono (fun x=>stepsP_skip HGI.out hx) (by omega),HM.out,HS.out⟩
    case measure=>simp[intOf];omega
  ·obtain rfl:i=n:=by omega
   have e1:decide ((i:Int)<(i:Int))=false:=by simp
   go_wp2
   go_ret
   exact⟨q,S,rfl,HS.out,HZ.out,HG.out.mono (fun _=>Iff.rfl) (by
    have h1:=nM l (show i≤l.length by rw[HR.out.len];omega);have h2:=Db.out.sum
    omega)⟩
theorem satNames_any (A:Option Addr) (n cap:Nat) (l:List Stp) (turn add0:Int) (w:World) (hr:Uh w A n l) :
  Calls Tryz.prog 8 #[.slice A n cap,.int .i64 turn,.int .i64 add0] w fun e w'=>e=.returned (.bool true)∧Below w.heap.size w w':=by
 have HR:=zH hr;obtain⟨add,hadd⟩:∃ add,Bb add0 500=add:=⟨_,rfl⟩;have hrg:=V8 add0 (n:=500) (by decide);rw[hadd] at hrg;obtain⟨ha0,ha1⟩:=hrg;have Y7:=zH hadd;clear hr hadd
 go_enter Tryz.func8,Tryz.ntmps8
 go_wp2_with fail
 refine (rD w).mono ?_
 rintro e w1 ⟨rfl,hb1⟩
 have HB1:=zH hb1;have HL:=zH (rE A n cap l 30 w1 (HR.out.grow hb1) (by omega) (by omega));clear hb1
 go_wp2_with fail
 refine HL.out.mono ?_
 rintro e w2 ⟨b,rfl,hb2,Bu⟩
 have HB2:=zH (HB1.out.trans (hb2.mono HB1.out.size));clear hb2 HL HB1
 cases b with
 | false =>
  go_wp2
  go_ret
  exact⟨rfl,HB2.out⟩
 | true =>
  have yY:=Bu rfl;have hn:n≤120:=by have:=yY.n;rw[HR.out.len] at this;exact this
  have Db:=zH yY;have HR2:=zH (HR.out.grow HB2.out);clear Bu yY
  go_wp2_with fail
  refine (Vp add0 500 w2 (by decide) (by decide)).mono ?_;rw[Y7.out]
  rintro e w3 ⟨rfl,rfl⟩
  go_wp2_with fail
  refine (solverG_any A n cap l 30 w2 HR2.out Db.out).mono ?_
  rintro e w4 ⟨q,S,rfl,h4,hz,hg⟩
  have H4:=zH h4;have HZS:=zH hz;have HGS:=zH hg;clear h4 hz hg
  go_wp2_with fail
  refine (lC 262144 2000 w4).mono ?_
  rintro e w5 ⟨r,rfl,h5⟩
  have H5:=zH (H4.out.two h5).other;clear h5
  go_wp2
  go_loopw [9] (fun v9 wr=>∃ (z:Int) (k:Nat) (T:aA.SM),z=k-1∧k≤n∧v9=.int .i64 z∧Hid (Zs 0 T)∧Hid (Wu (namedP turn add l n k) T (qG l n-qG l k+2*(n-k)))∧Hid (T.most=262144)∧Hid (bL w2.heap.size w2 wr r T (star (Um q S) emp))) (fun v9 _=>(intOf v9+1).toNat)
  case atStart=>exact⟨_,n,aA.SM.new 262144 2000,rfl,Nat.le_refl _,by go_num,(BL 262144 2000).1,(Wu.start 262144 2000).mono (fun x=>⟨fun h=>h.elim,fun ⟨j,h0,h1,_⟩=>by omega⟩) (Nat.zero_le _),zH rfl,H5.out⟩
  case round =>
   clear H5;obtain⟨z,k,T,hzk,hk,rfl,HZ,HG,HM,HS⟩:=hrel
   by_cases hz:0≤z
   ·obtain⟨i,rfl⟩:=Int.eq_ofNat_of_zero_le hz;obtain rfl:k=i+1:=by omega
    have hin:i<n:=by omega
    have e1:decide (0≤(i:Int))=true:=by simp
    have e1':decide ((i:Int)≥0)=true:=by simp
    obtain⟨ab,ao,rfl,hc⟩:=HR2.out.cells (by omega);obtain⟨LM,Aj,cj,dd1,pI⟩:=hc i hin;have d0:=(HS.out.below.cell (World.block_lt_of_cell? w2 _ LM)).trans LM;have d1:=(HS.out.below.cell (World.block_lt_of_cell? w2 _ dd1)).trans dd1;obtain⟨s,hs⟩:∃ s,gs l i=s:=⟨_,rfl⟩;have hsl:s∈l:=by rw[←hs,J8 _ _ (by rw[HR.out.len];exact hin)];exact List.getElem_mem _
    have hiv:=Db.out.vars s hsl;have hsu:qG l (i+1)=qG l i+s.2.length:=by rw[←hs];exact jJ l (by rw[HR.out.len];exact hin)
    have hsn:=nM l (show i+1≤n by omega)
    have hsn2:qG l n≤500:=by
     have:=Db.out.sum;rw[HR.out.len] at this;omega
    rw[hs] at d0 d1 dd1 pI;obtain⟨ln,hln⟩:∃ ln,s.2.length=ln:=⟨_,rfl⟩;rw[hln] at d1 dd1 pI hsu;have hls:ln≤500:=by omega
    have tZ:=zH pI;have HD1:=zH dd1;have V5:=zH hiv;have fP:=zH hln;have HGI:=zH hs;have p0:(0:Int)≤(i:Int):=by omega
    have p1:(i:Int)<(n:Int):=by omega
    clear hc hs hsl hiv hln LM dd1 pI hzk hz hk
    by_cases hx:s.1<2
    ·have e2:decide (1<s.1)=false:=by simp;omega
     have e2':decide (s.1>1)=false:=by simp;omega
     have HST:=zH (show St wr.heap.size wr wr (star (bO 3 none 0 []) emp) from⟨Below.refl _ _,Nat.le_refl _,(Sat.emp _ _).uh _ _⟩);have yS:=zH (And.intro hsu (And.intro hsn hsn2));clear hsu hsn hsn2
     go_wp2
     go_loopw [10,11] (fun v10 v11 wq=>∃ (z:Int) (k m:Nat) (xa:Option Nat) (xc:Nat) (xs:List Int),z=k-1∧m+k=ln∧v11=.int .i64 z∧v10=.slice (xa.map fun b=>⟨b,0,none⟩) m xc∧Hid (xs.length=m)∧Hid (xs=rnC turn add (s.2.drop k))∧Hid (St wr.heap.size wr wq (star (bO 3 xa xc xs) emp))) (fun _ v11 _=>(intOf v11+1).toNat)
     case atStart=>exact⟨_,ln,0,none,0,[],rfl,by omega,by go_num,rfl,zH rfl,zH (by rw[List.drop_of_length_le (by rw[fP.out];exact Nat.le_refl _)];rfl),HST.out⟩
     case round =>
      clear HST;obtain⟨z,k,m,xa,xc,xs,hzk,hmk,rfl,rfl,tO,Wl,Wo⟩:=hrel;have hbq:=HS.out.below.trans (Wo.out.below.mono HS.out.below.size);have HBQ:=zH hbq;have d2:=(hbq.cell (World.block_lt_of_cell? w2 _ HD1.out)).trans HD1.out
      by_cases hz:0≤z
      ·obtain⟨j,rfl⟩:=Int.eq_ofNat_of_zero_le hz;obtain rfl:k=j+1:=by omega
       have hjn:j<ln:=by omega
       have e3:decide (0≤(j:Int))=true:=by simp
       have e3':decide ((j:Int)≥0)=true:=by simp
       obtain⟨bx,ox,rfl,hcx⟩:=(tZ.out.grow hbq).cells (by omega);have d3:=hcx j hjn;have hmem:gi s.2 j∈s.2:=by rw[dh _ j (by rw[fP.out];exact hjn)];exact List.getElem_mem _
       have hx1:=V5.out (gi s.2 j) hmem;have hdr:=rnC_drop turn add s.2 (k:=j) (by rw[fP.out];exact hjn);rw[←Wl.out] at hdr;obtain⟨x,BG⟩:∃ x,gi s.2 j=x:=⟨_,rfl⟩;rw[BG] at d3 hx1 hdr;have HDR:=zH hdr;have j0:(0:Int)≤(j:Int):=by omega
       have j1:(j:Int)<(ln:Int):=by omega
       clear hcx BG hdr hbq hmem hz hzk
       by_cases hx0:x=0
       ·subst hx0;have HRX:=zH (show Qe turn add 0=0 by unfold Qe;rw[if_pos rfl])
        go_wp2_with (at_builtin;refine cO rfl _ _ 27 3 rfl Tryz.underlying27 Tryz.gQ Wo.out m tO.out rfl 0 rfl (by omega) ?_;intro b' ZK w7 h7;have H7:=zH h7;clear h7)
        go_roundw
        case rel=>exact⟨_,j,m+1,some b',ZK,xs++[0],rfl,by omega,by go_num,rfl,zH (by rw[List.length_append,tO.out];rfl),zH (by rw[HDR.out,HRX.out]),H7.out⟩
        case measure=>simp[intOf]
       ·have ex:(x==0)=false:=by simpa using hx0
        have ex':decide (x=0)=false:=by simpa using hx0
        obtain⟨av,hav⟩:∃ av,max x (-x)=av:=⟨_,rfl⟩;have hif:(if x< -x then -x else x)=av:=by split <;> omega
        obtain⟨tb,htb⟩:∃ tb,(!decide (x<0)==(bits BinOp.and IntKind.i64 (turn/2 ^ (av.toNat-1)) 1==1))=tb:=⟨_,rfl⟩;have hnb:V7 turn x=tb:=by unfold V7 LP;rw[hav];exact htb
        have hrx:Qe turn add x=if tb then -(av+add) else av+add:=by unfold Qe nmF;rw[if_neg hx0,hnb,hav]
        have hav1:1≤av:=by omega
        have hav2:av≤30:=by omega
        clear hnb
        cases tb with
        | true =>
         have HRX:=zH (show Qe turn add x=-(av+add) from hrx);clear hrx
         go_wp2_with (at_builtin;refine cO rfl _ _ 27 3 rfl Tryz.underlying27 Tryz.gQ Wo.out m tO.out rfl (-(av+add)) rfl (by omega) ?_;intro b' ZK w7 h7;have H7:=zH h7;clear h7)
         go_roundw
         case rel=>exact⟨_,j,m+1,some b',ZK,xs++[-(av+add)],rfl,by omega,by go_num,rfl,zH (by rw[List.length_append,tO.out];rfl),zH (by rw[HDR.out,HRX.out]),H7.out⟩
         case measure=>simp[intOf]
        | false =>
         have HRX:=zH (show Qe turn add x=av+add from hrx);clear hrx
         go_wp2_with (at_builtin;refine cO rfl _ _ 27 3 rfl Tryz.underlying27 Tryz.gQ Wo.out m tO.out rfl (av+add) rfl (by omega) ?_;intro b' ZK w7 h7;have H7:=zH h7;clear h7)
         go_roundw
         case rel=>exact⟨_,j,m+1,some b',ZK,xs++[av+add],rfl,by omega,by go_num,rfl,zH (by rw[List.length_append,tO.out];rfl),zH (by rw[HDR.out,HRX.out]),H7.out⟩
         case measure=>simp[intOf]
      ·obtain rfl:k=0:=by omega
       obtain rfl:m=ln:=by omega
       obtain rfl:z=-1:=by omega
       have hxs:xs=rnC turn add s.2:=by rw[Wl.out,List.drop_zero]
       have QX:=HS.out.nest Wo.out;have H14:=zH (QX.frame (show _=star (bO 3 xa xc (rnC turn add s.2)) (star (Um q S) emp) by rw[hxs];simp only[aQ]));have hrd:=H14.out.rdI (by rw[rnC_len,fP.out];omega);rw[rnC_len,fP.out] at hrd;obtain⟨a1,a2⟩:=rF HZ.out (rnC turn add s.2);have HAD:=zH (lD (xa.map fun b=>⟨b,0,none⟩) m xc (rnC turn add s.2) H14.out hrd (by omega) a1);have HZ2:=zH a2.zs
       have HG2:=zH (show Wu (namedP turn add l n i) (fU T (rnC turn add s.2)).1 (qG l n-qG l i+2*(n-i)) from (HG.out.add a2 (by
        have:=yS.out
        rw[HM.out,rnC_len,fP.out];omega)).mono (fun x=>namedP_succ hin HGI.out hx) (by
        have:=yS.out
        rw[rnC_len,fP.out];omega))
       have uf:=zH (show (fU T (rnC turn add s.2)).1.most=262144 by rw[a2.cm.1];exact HM.out);clear a1 a2 hrd QX hxs hzk hmk hz
       go_wp2_with fail
       refine HAD.out.mono ?_
       rintro e w15 ⟨rfl,Qd⟩
       have H15:=zH Qd.drop;clear Qd HAD
       go_wp2
       go_roundw
       case rel=>exact⟨_,i,_,rfl,by omega,by go_num,HZ2.out,HG2.out,uf.out,H15.out⟩
       case measure=>simp[intOf]
    ·have e2:decide (1<s.1)=true:=by simp;omega
     have e2':decide (s.1>1)=true:=by simp;omega
     have HG2:=zH (HG.out.mono (fun x=>namedP_skip (turn:=turn) (add:=add) HGI.out hx) (show _≤qG l n-qG l i+2*(n-i) by omega))
     go_wp2
     go_roundw
     case rel=>exact⟨_,i,T,rfl,by omega,by go_num,HZ.out,HG2.out,HM.out,HS.out⟩
     case measure=>simp[intOf]
   ·obtain rfl:k=0:=by omega
    obtain rfl:z=-1:=by omega
    clear hzk hz;obtain⟨a1,a2,a3⟩:=fO HZS.out (by omega) (xs:=[]) (by simp) rfl;obtain⟨b1,b2,b3⟩:=fO HZ.out (by omega) (xs:=[]) (by simp) rfl;obtain⟨R,hR⟩:∃ R,bK S []=R:=⟨_,rfl⟩;obtain⟨R2,hR2⟩:∃ R,bK T []=R:=⟨_,rfl⟩;have yw:=zH (HS.out.other.GZ a1 R hR);rw[hR] at a3;rw[hR2] at b3;have HA:=zH a3;have HA2:=zH b3;have HB1X:=zH b1;have HR2X:=zH hR2;clear a1 a2 a3 b1 b2 b3 hR hR2
    go_wp2_with fail
    refine yw.out.mono ?_
    rintro e w6 ⟨rfl,h6⟩
    have HS2:=zH (h6.other.GZ HB1X.out R2 HR2X.out);clear h6 yw
    go_wp2_with fail
    refine HS2.out.mono ?_
    rintro e w7 ⟨rfl,h7⟩
    have HB7:=zH (HB2.out.trans (h7.below.mono HB2.out.size));clear h7 HS2
    by_cases h1:R.2.2=0
    ·have e3:(R.2.2 != 0)=false:=by simpa using h1
     have e4:decide (R.2.2=0)=true:=by simpa using h1
     by_cases h2:R2.2.2=0
     ·have e5:(R2.2.2 != 0)=false:=by simpa using h2
      have e6:decide (R2.2.2=0)=true:=by simpa using h2
      have hkey:R.2.1=R2.2.1:=by
       have k1:=HA.out;have k2:=HA2.out;rw[h1] at k1;rw[h2] at k2;refine aaD (P:=stepsP l n) (Q:=namedP turn add l n 0) (turn:=turn) HGS.out HG.out ha0 ha1 (fun x ⟨j,hj,_,e⟩ y hy=>?_) (fun x=>⟨?_,?_⟩) k1 k2
       ·subst e;have hm:gs l j∈l:=by rw[J8 _ _ (by rw[HR.out.len];exact hj)];exact List.getElem_mem _
        have:=Db.out.vars _ hm y hy;omega
       ·rintro⟨j,_,h1,h2,h3⟩
        exact⟨_,⟨j,h1,h2,rfl⟩,h3⟩
       ·rintro⟨_,⟨j,h1,h2,rfl⟩,h3⟩
        exact⟨j,Nat.zero_le _,h1,h2,h3⟩
      have e7:(R.2.1==R2.2.1)=true:=by simpa using hkey
      have e8:decide (R.2.1=R2.2.1)=true:=by simpa using hkey
      clear hkey h1 h2
      go_wp2
      go_ret
      exact⟨rfl,HB7.out⟩
     ·have e5:(R2.2.2 != 0)=true:=by simpa using h2
      have e6:decide (R2.2.2=0)=false:=by simpa using h2
      clear h1 h2
      go_wp2
      go_ret
      exact⟨rfl,HB7.out⟩
    ·have e3:(R.2.2 != 0)=true:=by simpa using h1
     have e4:decide (R.2.2=0)=false:=by simpa using h1
     clear h1
     go_wp2
     go_ret
     exact⟨rfl,HB7.out⟩
end Go.Proofs.YthbbmdnfkkffjaaGreat

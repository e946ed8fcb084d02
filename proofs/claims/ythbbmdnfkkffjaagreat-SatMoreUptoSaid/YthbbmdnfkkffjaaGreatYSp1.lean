/-
  Parts of the proof, joined by program: Sp1.
-/
import Derived.Test.YthbbmdnfkkffjaaGreatY44
import Derived.Test.YthbbmdnfkkffjaaGreatY01
import Derived.Lib.Hide
set_option maxHeartbeats 8000000
set_option maxRecDepth 100000
namespace Go.Proofs.YthbbmdnfkkffjaaGreat
open Go.RowKit Go.Proofs.aC Go.Proofs.aA
open Go.Proofs.au hiding SM
theorem SC (A:Option Addr) (n cap:Nat) (l:List Stp) (v:Int) (w:World) (hr:Uh w A n l) (hl:ZW l v) :
  Calls Tryz.prog 25 #[.slice A n cap] w fun e w'=>∃ q S,e=.returned (.pointer (some ⟨q,0,none⟩))∧bL w.heap.size w w' q S emp∧Zs 0 S:=by
 have HR:=zH hr;have hn:n≤120:=by have:=hl.n;rw[hr.len] at this;exact this
 have Db:=zH hl;clear hr hl
 go_enter Tryz.func25,Tryz.ntmps25
 go_wp2_with fail
 refine (lC 262144 2000 w).mono ?_
 rintro e w3 ⟨q,rfl,h3⟩
 have H3:=zH h3;clear h3
 go_wp2
 go_loopw [4] (fun v4 wr=>∃ (i:Nat) (S:aA.SM),i≤n∧v4=.int .i64 i∧Hid (Zs 0 S)∧Hid (bL w.heap.size w wr q S emp)) (fun v4 _=>n-(intOf v4).toNat)
 case atStart=>exact⟨0,aA.SM.new 262144 2000,Nat.zero_le _,rfl,(BL 262144 2000).1,H3.out⟩
 case round =>
  clear H3;obtain⟨i,S,hi,rfl,HZ,HS⟩:=hrel
  by_cases hin:i<n
  ·have e1:decide ((i:Int)<(n:Int))=true:=by simp;omega
   obtain⟨ab,ao,rfl,hc⟩:=HR.out.cells (by omega);obtain⟨LM,Aj,cj,dd1,pI⟩:=hc i hin;have d0:=(HS.out.below.cell (World.block_lt_of_cell? w _ LM)).trans LM;have d1:=(HS.out.below.cell (World.block_lt_of_cell? w _ dd1)).trans dd1;have kC:=pI.grow HS.out.below;obtain⟨s,hs⟩:∃ s,gs l i=s:=⟨_,rfl⟩
   have hls:s.2.length≤500:=by
    have h1:=jJ l (j:=i) (by rw[HR.out.len];exact hin);have h2:=nM l (show i+1≤l.length by rw[HR.out.len];omega);have h3:=Db.out.sum;rw[hs] at h1;omega
   rw[hs] at d0 d1 kC;obtain⟨ln,hln⟩:∃ ln,s.2.length=ln:=⟨_,rfl⟩;rw[hln] at d1 kC hls;have Gy:=zH kC;have p0:(0:Int)≤(i:Int):=by omega
   have p1:(i:Int)<(n:Int):=by omega
   clear hc hs kC hln LM dd1 pI
   by_cases hx:s.1<2
   ·have e2:decide (s.1<2)=true:=by simpa using hx
    obtain⟨a1,a2⟩:=rF HZ.out s.2;have HAD:=zH (lD Aj ln cj s.2 HS.out Gy.out (by omega) a1);have HZ2:=zH a2.zs;clear a1 a2
    go_wp2_with fail
    refine HAD.out.mono ?_
    rintro e w5 ⟨rfl,h5⟩
    have H5:=zH h5;clear h5 HAD
    go_wp2
    go_roundw
    case rel=>exact⟨i+1,_,by omega,by go_num,HZ2.out,H5.out⟩
    case measure=>simp[intOf];omega
   ·have e2:decide (s.1<2)=false:=by simpa using hx
    go_wp2
    go_roundw
    case rel=>exact⟨i+1,S,by omega,by go_num,HZ.out,HS.out⟩
    case measure=>simp[intOf];omega
  ·obtain rfl:i=n:=by omega
   have e1:decide ((i:Int)<(i:Int))=false:=by simp
   go_wp2
   go_ret
   exact⟨q,S,rfl,HS.out,HZ.out⟩
theorem V8 (k:Int) {n:Int} (hn:0<n):0≤Bb k n∧Bb k n<n:=by
 have h1:=Int.tmod_lt_of_pos k hn
 have h2:-n<k.tmod n:=by
  have:=Int.tmod_lt_of_pos (-k) hn;rw[Int.neg_tmod] at this;omega
 unfold Bb
 split <;> omega
theorem PX (b:Nat→Bool) {v:Int} (h:0<v):tr b (aJ (-v))=!(tr b (aJ v)):=by
 have p1:aJ (-v) % 2=1:=by unfold aJ;rw[if_pos (by omega)];omega
 have p2:¬ aJ v % 2=1:=by unfold aJ;rw[if_neg (by omega)];omega
 unfold tr;rw[if_pos p1,if_neg p2,dU,dU,Int.natAbs_neg]
theorem Hg {S0 S1 S2 S3 T1 T2 T3 T4:aA.SM} {v a b c d:Int} (hv:0<v) (h1:Answer [] S0 T1 a 0) (h2:Answer [v] S1 T2 b 0) (h3:Answer [-v] S2 T3 c 0) (h4:Answer [v,-v] S3 T4 d 0) (g1:S1.given=S0.given) (g2:S2.given=S0.given) :
  d=2∧((a=1∧b=1∧c=1)∨(a=1∧b=1∧c=2)∨(a=1∧b=2∧c=1)∨(a=2∧b=2∧c=2)):=by
 have t1:(a=1∧∃ m,jP m S0)∨(a=2∧∀ m,¬ jP m S0):=by
  rcases h1.out with ⟨e,_,_,_,_,k,_⟩ | ⟨e,_,_,k,_,k2⟩ | ⟨_,_,_,k⟩
  ·exact .inl ⟨e,_,k⟩
  ·right;refine⟨e,fun m hm=>?_⟩;obtain⟨y,hy,_⟩:=k2 m hm;rw[List.sublist_nil.1 k] at hy
   cases hy
  ·omega
 have t2:(b=1∧∃ m,jP m S0∧tr m (aJ v)=true)∨(b=2∧∀ m,jP m S0→tr m (aJ v)=false):=by
  rcases h2.out with ⟨e,_,_,_,_,k,k2⟩ | ⟨e,_,_,k,_,k2⟩ | ⟨_,_,_,k⟩
  ·refine .inl ⟨e,_,?_,k2 v (by simp)⟩;unfold jP at k ⊢;rw[g1] at k;exact k
  ·right;refine⟨e,fun m hm=>?_⟩;obtain⟨y,hy,ht⟩:=k2 m (by unfold jP at hm ⊢;rw[g1];exact hm);have:=k.subset hy;rw[List.mem_singleton] at this;rw[←this];exact ht
  ·omega
 have t3:(c=1∧∃ m,jP m S0∧tr m (aJ (-v))=true)∨(c=2∧∀ m,jP m S0→tr m (aJ (-v))=false):=by
  rcases h3.out with ⟨e,_,_,_,_,k,k2⟩ | ⟨e,_,_,k,_,k2⟩ | ⟨_,_,_,k⟩
  ·refine .inl ⟨e,_,?_,k2 (-v) (by simp)⟩;unfold jP at k ⊢;rw[g2] at k;exact k
  ·right;refine⟨e,fun m hm=>?_⟩;obtain⟨y,hy,ht⟩:=k2 m (by unfold jP at hm ⊢;rw[g2];exact hm);have:=k.subset hy;rw[List.mem_singleton] at this;rw[←this];exact ht
  ·omega
 refine⟨?_,?_⟩
 ·rcases h4.out with ⟨e,_,_,_,_,_,k2⟩ | ⟨e,_⟩ | ⟨_,_,_,k⟩
  ·have q1:=k2 v (by simp);have q2:=k2 (-v) (by simp);rw[PX _ hv,q1] at q2
   cases q2
  ·exact e
  ·omega
 ·rcases t1 with ⟨e1,m,hm⟩ | ⟨e1,k1⟩
  ·rcases t2 with ⟨e2,_⟩ | ⟨e2,k2⟩ <;> rcases t3 with ⟨e3,_⟩ | ⟨e3,k3⟩
   ·exact .inl ⟨e1,e2,e3⟩
   ·exact .inr (.inl ⟨e1,e2,e3⟩)
   ·exact .inr (.inr (.inl ⟨e1,e2,e3⟩))
   ·have q1:=k2 m hm;have q2:=k3 m hm;rw[PX _ hv,q1] at q2
    cases q2
  ·rcases t2 with ⟨e2,m,hm,_⟩ | ⟨e2,k2⟩
   ·exact absurd hm (k1 m)
   ·rcases t3 with ⟨e3,m,hm,_⟩ | ⟨e3,k3⟩
    ·exact absurd hm (k1 m)
    ·exact .inr (.inr (.inr ⟨e1,e2,e3⟩))
theorem LK (A:Option Addr) (n cap:Nat) (l:List Stp) (x:Int) (w:World) (hr:Uh w A n l) :
  Calls Tryz.prog 9 #[.slice A n cap,.int .i64 x] w fun e w'=>e=.returned (.bool true)∧Below w.heap.size w w':=by
 have HR:=zH hr;clear hr
 go_enter Tryz.func9,Tryz.ntmps9
 go_wp2_with fail
 refine (rD w).mono ?_
 rintro e w1 ⟨rfl,hb1⟩
 have HB1:=zH hb1;have HL:=zH (rE A n cap l 30 w1 (HR.out.grow hb1) (by omega) (by omega));clear hb1
 go_wp2_with fail
 refine HL.out.mono ?_
 rintro e w2 ⟨b,rfl,hb2,Bu⟩
 have HB2:=zH (HB1.out.trans (hb2.mono HB1.out.size));clear hb2 HL HB1
 cases b with
 | false =>
  go_wp2
  go_ret
  exact⟨rfl,HB2.out⟩
 | true =>
  have Db:=zH (Bu rfl);have HR2:=zH (HR.out.grow HB2.out);clear Bu;obtain⟨y0,y1⟩:=V8 x (n:=30) (by omega);have HP:=zH (Vp x 30 w2 (by omega) (by omega));obtain⟨y,hy⟩:∃ y,Bb x 30=y:=⟨_,rfl⟩;rw[hy] at HP y0 y1;clear hy
  go_wp2_with fail
  refine HP.out.mono ?_
  rintro e w3 ⟨rfl,rfl⟩
  clear HP
  go_wp2_with fail
  refine (SC A n cap l 30 w2 HR2.out Db.out).mono ?_
  rintro e w4 ⟨q,S,rfl,h4,hz⟩
  obtain⟨v,hv⟩:∃ v:Int,1+y=v:=⟨_,rfl⟩;have v1:0<v:=by omega
  have v2:v≤30:=by omega
  try rw[hv]
  obtain⟨a1,a2,a3⟩:=fO hz (by omega) (xs:=[]) (by simp) rfl;have yw:=zH (h4.GZ a1 _ rfl);obtain⟨R1,hR1⟩:∃ R,bK S []=R:=⟨_,rfl⟩;rw[hR1] at a2 a3 yw;have HA1:=zH a3;have HZ1:=zH a2;clear a1 a2 a3 h4 hz hR1 hv y0 y1
  go_wp2_with fail
  refine yw.out.mono ?_
  rintro e w5 ⟨rfl,h5⟩
  have H1:=zH h5;clear h5;obtain⟨a1,a2,a3⟩:=fO HZ1.out (by omega) (xs:=[v]) (by simp) (by simp only[List.all_cons,List.all_nil,Bool.and_true,bD];omega);have HS2:=zH (H1.out.rC [v] 1 rfl (by omega) (by omega) (fun _=>a1) _ rfl);obtain⟨R2,hR⟩:∃ R,bK R1.1 [v]=R:=⟨_,rfl⟩;rw[hR] at a2 a3 HS2;have HA2:=zH a3;have HZ2:=zH a2;clear a1 a2 a3 hR yw
  go_wp2_with fail
  refine HS2.out.mono ?_
  rintro e w6 ⟨rfl,h⟩
  have H2:=zH h;clear h;obtain⟨a1,a2,a3⟩:=fO HZ2.out (by omega) (xs:=[-v]) (by simp) (by simp only[List.all_cons,List.all_nil,Bool.and_true,bD];omega);have Hy:=zH (H2.out.rC [-v] 1 rfl (by omega) (by omega) (fun _=>a1) _ rfl);obtain⟨R3,hR⟩:∃ R,bK R2.1 [-v]=R:=⟨_,rfl⟩;rw[hR] at a2 a3 Hy;have HA3:=zH a3;have HZ3:=zH a2;clear a1 a2 a3 hR HS2
  go_wp2_with fail
  refine Hy.out.mono ?_
  rintro e w7 ⟨rfl,h⟩
  have H3:=zH h;clear h;obtain⟨a1,a2,a3⟩:=fO HZ3.out (by omega) (xs:=[v,-v]) (by simp) (by simp only[List.all_cons,List.all_nil,Bool.and_true,Bool.and_eq_true,bD];omega);have Tv:=zH (H3.out.rC [v,-v] 2 rfl (by omega) (by omega) (fun _=>a1) _ rfl);obtain⟨R4,hR⟩:∃ R,bK R3.1 [v,-v]=R:=⟨_,rfl⟩;rw[hR] at a2 a3 Tv;have HA4:=zH a3;have HZ4:=zH a2;clear a1 a2 a3 hR Hy
  go_wp2_with fail
  refine Tv.out.mono ?_
  rintro e w8 ⟨rfl,h⟩
  have H4:=zH h;clear h;have HB:=zH (HB2.out.trans (H4.out.below.mono HB2.out.size));have Jb:=zH HA1.out.given;have HG2:=zH (HA2.out.given.trans Jb.out);obtain⟨T1,a,ea⟩:=R1;obtain⟨T2,b,eb⟩:=R2;obtain⟨T3,c,ec⟩:=R3;obtain⟨T4,d,ed⟩:=R4;simp only at HA1 HA2 HA3 HA4 Jb HG2;clear Tv
  by_cases k1:ea=0
  ·subst k1
   by_cases k2:eb=0
   ·subst k2
    by_cases k3:ec=0
    ·subst k3
     by_cases k4:ed=0
     ·subst k4;obtain⟨rfl,hc⟩:=Hg v1 HA1.out HA2.out HA3.out HA4.out Jb.out HG2.out;rcases hc with ⟨rfl,rfl,rfl⟩ | ⟨rfl,rfl,rfl⟩ | ⟨rfl,rfl,rfl⟩ | ⟨rfl,rfl,rfl⟩
      all_goals
       clear HA1 HA2 HA3 HA4
       go_wp2
       go_ret
       exact⟨rfl,HB.out⟩
     ·have d4:(ed != 0)=true:=by simpa using k4
      have d5:decide (ed=0)=false:=by simpa using k4
      go_wp2
      go_ret
      exact⟨rfl,HB.out⟩
    ·have d4:(ec != 0)=true:=by simpa using k3
     have d5:decide (ec=0)=false:=by simpa using k3
     go_wp2
     go_ret
     exact⟨rfl,HB.out⟩
   ·have d4:(eb != 0)=true:=by simpa using k2
    have d5:decide (eb=0)=false:=by simpa using k2
    go_wp2
    go_ret
    exact⟨rfl,HB.out⟩
  ·have d4:(ea != 0)=true:=by simpa using k1
   have d5:decide (ea=0)=false:=by simpa using k1
   go_wp2
   go_ret
   exact⟨rfl,HB.out⟩
end Go.Proofs.YthbbmdnfkkffjaaGreat

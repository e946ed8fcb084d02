/-
  SatHands: the law's walk: whatever the script, it returns true.
-/
import Derived.Test.YthbbmdnfkkffjaaGreatYHa0
import Derived.BigRegion
import Derived.Deep.RegionHeld3
import Derived.Test.YthbbmdnfkkffjaaGreatY01
set_option maxHeartbeats 8000000
set_option maxRecDepth 100000
namespace Go.Proofs.YthbbmdnfkkffjaaGreat
open Go.RowKit Go.Proofs.aC Go.Proofs.aA
open Go.Proofs.au hiding SM
theorem satHands_any (A:Option Addr) (n cap:Nat) (l:List Stp) (w:World) (hr:Uh w A n l) :
  Calls Tryz.prog 12 #[.slice A n cap] w fun e w'=>e=.returned (.bool true)∧Below w.heap.size w w':=by
 have HR:=zH hr;clear hr
 go_enter Tryz.func12,Tryz.ntmps12
 go_wp2_with fail
 refine (rD w).mono ?_
 rintro e w1 ⟨rfl,hb1⟩
 have HB1:=zH hb1;have HL:=zH (rE A n cap l 30 w1 (HR.out.grow hb1) (by omega) (by omega));clear hb1
 go_wp2_with fail
 refine HL.out.mono ?_
 rintro e w2 ⟨b,rfl,hb2,Bu⟩
 have HB2:=zH (HB1.out.trans (hb2.mono HB1.out.size));clear hb2 HL HB1
 cases b with
 | false =>
  go_wp2
  go_ret
  exact⟨rfl,HB2.out⟩
 | true =>
  have yY:=Bu rfl;have hn:n≤120:=by have:=yY.n;rw[HR.out.len] at this;exact this
  have Db:=zH yY;have HR2:=zH (HR.out.grow HB2.out);clear Bu yY
  go_wp2_with fail
  refine (lC 262144 2000 w2).mono ?_
  rintro e w3 ⟨q,rfl,h3⟩
  have H3:=zH h3;clear h3
  go_wp2_with fail
  refine (lC 262144 2000 w3).mono ?_
  rintro e w4 ⟨r,rfl,h4⟩
  have H4:=zH (show BothI w2.heap.size w2 w4 q r (aA.SM.new 262144 2000) emp from H3.out.two h4);clear h4 H3
  go_wp2
  go_loopw [5] (fun v5 wr=>∃ (i:Nat) (S:aA.SM),i≤n∧v5=.int .i64 i∧Hid (HaS i S)∧Hid (BothI w2.heap.size w2 wr q r S emp)) (fun v5 _=>n-(intOf v5).toNat)
  case atStart=>exact⟨0,aA.SM.new 262144 2000,Nat.zero_le _,rfl,HaS.new,H4.out⟩
  case round =>
   clear H4;obtain⟨i,S,hi,rfl,HA,HS⟩:=hrel
   by_cases hin:i<n
   ·have e1:decide ((i:Int)<(n:Int))=true:=by simp;omega
    obtain⟨ab,ao,rfl,hc⟩:=HR2.out.cells (by omega);obtain⟨LM,Aj,cj,dd1,pI⟩:=hc i hin;have d0:=(HS.out.below.cell (World.block_lt_of_cell? w2 _ LM)).trans LM;have d1:=(HS.out.below.cell (World.block_lt_of_cell? w2 _ dd1)).trans dd1;obtain⟨s,hs⟩:∃ s,gs l i=s:=⟨_,rfl⟩
    have hls:s.2.length≤500:=by
     have h1:=jJ l (j:=i) (by rw[HR.out.len];exact hin);have h2:=nM l (show i+1≤l.length by rw[HR.out.len];omega);have h3:=Db.out.sum;rw[hs] at h1;omega
    rw[hs] at d0 d1 dd1 pI;obtain⟨ln,hln⟩:∃ ln,s.2.length=ln:=⟨_,rfl⟩;rw[hln] at d1 hls dd1 pI;have tZ:=zH pI;have HD1:=zH dd1;have fP:=zH hln;have p0:(0:Int)≤(i:Int):=by omega
    have p1:(i:Int)<(n:Int):=by omega
    have hcop:=(K7 Aj ln cj s.2 wr (tZ.out.grow HS.out.below) (by omega));clear hc hs hln LM dd1 pI
    by_cases hx:s.1<2
    ·have e2:decide (s.1<2)=true:=by simpa using hx
     obtain⟨a1,_⟩:=rF HA.out.zs s.2;obtain⟨R,hR⟩:∃ R,fU S s.2=R:=⟨_,rfl⟩;have hpz:=HA.out.add (by omega) s.2;rw[hR] at hpz;have HA2:=zH hpz;have HA1:=zH a1;have HRR:=zH hR;clear a1 hR hpz
     go_wp2_with fail
     refine hcop.mono ?_
     rintro e w5 ⟨ia,ic,rfl,BZ⟩
     clear hcop;have h5:bL w2.heap.size w2 w5 q S (star (bO 3 ia ic s.2) (star (Um r S) emp)):=bL.nest HS.out BZ;have H5:=zH h5;have d2:=(h5.below.cell (World.block_lt_of_cell? w2 _ HD1.out)).trans HD1.out
     have HAD1:=zH (show ∀ V,bL w2.heap.size w2 V q S (star (bO 3 ia ic s.2) (star (Um r S) emp))→Calls Tryz.prog 18 #[.pointer (some ⟨q,0,none⟩),.slice (ia.map fun b=>⟨b,0,none⟩) ln ic] V fun e w'=>e=.returned (.int .i64 R.2)∧bL w2.heap.size w2 w' q R.1 (star (bO 3 ia ic s.2) (star (Um r S) emp)) from fun V hV=>by
      have hrd:=hV.rdI (by rw[fP.out];omega);rw[fP.out] at hrd;have:=lD _ ln ic s.2 hV hrd (by omega) HA1.out;rw[HRR.out] at this
      exact this)
     have HAD2:=zH (show ∀ V,bL w2.heap.size w2 V q R.1 (star (bO 3 ia ic s.2) (star (Um r S) emp))→Calls Tryz.prog 18 #[.pointer (some ⟨r,0,none⟩),.slice Aj ln cj] V fun e w'=>e=.returned (.int .i64 R.2)∧bL w2.heap.size w2 w' q R.1 (star (bO 3 ia ic s.2) (star (Um r R.1) emp)) from fun V hV=>by
      have h1:=(hV.frame (show _=star (Um r S) (star (bO 3 ia ic s.2) emp) by ac_rfl)).other;have:=lD Aj ln cj s.2 h1 (tZ.out.grow h1.below) (by omega) HA1.out;rw[HRR.out] at this;refine this.mono ?_
      rintro e w' ⟨rfl,h2⟩
      exact⟨rfl,h2.other.frame (by ac_rfl)⟩)
     unfold iB;clear h5 BZ d0 d1
     go_wp2
     go_region_held3 (fun V=>V.cell? ⟨ab,ao+i*2+1,none⟩=some (.slice Aj ln cj))
      (first | assumption | exact d2)
      (first
       | (go_at_call 18;refine (HAD2.out _ H11.out).mono ?_;rintro e w12 ⟨rfl,h12⟩;have IC:=zH h12;have d4:=(h12.below.cell (World.block_lt_of_cell? w2 _ HD1.out)).trans HD1.out;clear h12)
       | (go_at_call 18;refine (HAD1.out _ (H5.out.drawn ⟨1,rfl⟩)).mono ?_;rintro e w11 ⟨rfl,h11⟩;have H11:=zH h11;have d3:=(h11.below.cell (World.block_lt_of_cell? w2 _ HD1.out)).trans HD1.out;clear h11))
     all_goals
      have HSP:=zH (bL.spoilTop IC.out ln fP.out (by omega));clear d2 d3 d4 H11 H5 HAD1 HAD2
      go_wp2_with fail
      refine HSP.out.mono ?_
      rintro e w13 ⟨rfl,FE⟩
      have Wo:=zH (show BothI w2.heap.size w2 w13 q r R.1 emp from FE);have e3:(R.2 != R.2)=false:=by simp
      clear FE HSP IC
      go_wp2
      go_roundw
      case rel=>exact⟨i+1,R.1,by omega,by go_num,HA2.out,Wo.out⟩
      case measure=>simp[intOf];omega
    ·have e2:decide (s.1<2)=false:=by simpa using hx
     obtain⟨⟨T,v,er⟩,hR⟩:∃ R,bK S s.2=R:=⟨_,rfl⟩;have hha:=HA.out.solve (by omega) (xs:=s.2) (by rw[fP.out];omega);rw[hR] at hha;have HT:=zH (show HaS (i+1) T from hha);have HRR:=zH hR;clear hha hR
     go_wp2_with fail
     refine hcop.mono ?_
     rintro e w5 ⟨ia,ic,rfl,BZ⟩
     have h5:=HS.out.nest BZ;have H5:=zH (h5.solve1 HA.out (by omega) ln fP.out (by omega) T v er HRR.out);clear hcop BZ h5 d0 d1;unfold iB
     go_wp2_with fail
     refine H5.out.mono ?_
     rintro e w6 ⟨rfl,h6⟩
     have H6:=zH (bL.spoilTop h6 ln fP.out (by omega));clear h6 H5
     go_wp2_with fail
     refine H6.out.mono ?_
     rintro e w7 ⟨rfl,h7⟩
     have d7:=(h7.below.cell (World.block_lt_of_cell? w2 _ HD1.out)).trans HD1.out;have H7:=zH (BothI.solve2 (c:=cj) h7 HA.out (by omega) ln fP.out (by omega) tZ.out (Nat.le_refl _) v er HRR.out);clear h7 H6
     go_wp2_with fail
     refine H7.out.mono ?_
     rintro e w8 ⟨rfl,h8⟩
     clear H7 d7;obtain⟨cl,hcl⟩:∃ n,T.core.length=n:=⟨_,rfl⟩;have hcl5:cl≤500:=by rw[←hcl];exact HT.out.core.1
     obtain⟨U,hU⟩:∃ U,trB T=U:=⟨_,rfl⟩;obtain⟨un,hun⟩:∃ n,U.length=n:=⟨_,rfl⟩;obtain⟨te,hte⟩:∃ e,(trG T).2=e:=⟨_,rfl⟩;obtain⟨ll,hll⟩:∃ n,T.learned.length=n:=⟨_,rfl⟩;have hll2:ll≤2000:=by rw[←hll];exact HT.out.lrn.1
     obtain⟨wd,hwd⟩:∃ n,T.words=n:=⟨_,rfl⟩;have jW:=zH hcl;have HU:=zH hU;have HUN:=zH hun;have HTE:=zH hte;have LU:=zH hll;have Ik:=zH hwd;have H8:=zH (h8.core cl hcl hcl5);clear h8 hcl hU hun hte hll hwd
     go_wp2_with fail
     refine H8.out.mono ?_
     rintro e w9 ⟨xa,xc,rfl,h9⟩
     have H9:=zH (h9.coreR cl jW.out hcl5);clear h9 H8
     go_wp2_with fail
     refine H9.out.mono ?_
     rintro e w10 ⟨ya,yc,rfl,h10⟩
     have DJ:=zH (h10.trace HT.out U HU.out un HUN.out);rw[HTE.out] at DJ;clear h10 H9
     go_wp2_with fail
     refine DJ.out.mono ?_
     rintro e w11 ⟨ua,uc,rfl,h11⟩
     have H11:=zH (h11.traceR HT.out U HU.out un HUN.out);rw[HTE.out] at H11;clear h11 DJ
     go_wp2_with fail
     refine H11.out.mono ?_
     rintro e w12 ⟨va,vc,rfl,h12⟩
     have IC:=zH (h12.learned HT.out ll LU.out);clear h12 H11
     go_wp2_with fail
     refine IC.out.mono ?_
     rintro e w13 ⟨ma,mc,W,rfl,FE,hW⟩
     have HW:=zH hW;have Wo:=zH (FE.learnedR HT.out ll LU.out);clear FE IC hW
     go_wp2_with fail
     refine Wo.out.mono ?_
     rintro e w14 ⟨na,nc,W',rfl,QX,hW'⟩
     have HW':=zH hW';clear Wo hW';have UW:un≤4194304:=by rw[←HUN.out,←HU.out];exact trB_len T
     have hrx:=(QX.frame (show _=(star (bO 3 xa xc T.core) (star (bR 27 na nc W') (star (bR 27 ma mc W) (star (Ba 5 va vc U) (star (Ba 5 ua uc U) (star (bO 3 ya yc T.core) emp)))))) by ac_rfl)).rdI (by rw[jW.out];omega);have hry:=(QX.frame (show _=(star (bO 3 ya yc T.core) (star (bR 27 na nc W') (star (bR 27 ma mc W) (star (Ba 5 va vc U) (star (Ba 5 ua uc U) (star (bO 3 xa xc T.core) emp)))))) by ac_rfl)).rdI (by rw[jW.out];omega);rw[jW.out] at hrx hry;have H14:=zH QX;have H15:=zH (QX.ints (c:=xc) (c':=yc) hrx hry);have e3:(v != v)=false:=by simp
     have e4:(er != er)=false:=by simp
     have e5:(te != te)=false:=by simp
     have e6:((wd:Int) != (wd:Int))=false:=by simp
     clear QX hrx hry
     go_wp2_with fail
     refine H15.out.mono ?_
     rintro e w15 ⟨rfl,Qd⟩
     clear H15 H14;have hru:=(Qd.frame (show _=(star (Ba 5 ua uc U) (star (bR 27 na nc W') (star (bR 27 ma mc W) (star (Ba 5 va vc U) (star (bO 3 ya yc T.core) (star (bO 3 xa xc T.core) emp)))))) by ac_rfl)).rdY (by rw[HUN.out];omega);have I6:=(Qd.frame (show _=(star (Ba 5 va vc U) (star (bR 27 na nc W') (star (bR 27 ma mc W) (star (Ba 5 ua uc U) (star (bO 3 ya yc T.core) (star (bO 3 xa xc T.core) emp)))))) by ac_rfl)).rdY (by rw[HUN.out];omega);rw[HUN.out] at hru I6;have H16:=zH (Qd.bytes (c:=uc) (c':=vc) hru I6);clear Qd hru I6
     go_wp2_with fail
     refine H16.out.mono ?_
     rintro e w16 ⟨rfl,h16⟩
     clear H16;have hrm:=(h16.frame (show _=(star (bR 27 ma mc W) (star (bR 27 na nc W') (star (Ba 5 va vc U) (star (Ba 5 ua uc U) (star (bO 3 ya yc T.core) (star (bO 3 xa xc T.core) emp)))))) by ac_rfl)).rdX HW.out (fun x hx=>by have:=HT.out.lrn.2 x hx;omega) (by omega);have hrn:=(h16.frame (show _=(star (bR 27 na nc W') (star (bR 27 ma mc W) (star (Ba 5 va vc U) (star (Ba 5 ua uc U) (star (bO 3 ya yc T.core) (star (bO 3 xa xc T.core) emp)))))) by ac_rfl)).rdX HW'.out (fun x hx=>by have:=HT.out.lrn.2 x hx;omega) (by omega);have H17:=zH (h16.lists (c:=mc) (c':=nc) hrm hrn);clear h16 hrm hrn
     go_wp2_with fail
     refine H17.out.mono ?_
     rintro e w17 ⟨rfl,h17⟩
     have H18:=zH (h17.wordsL wd Ik.out);have H19:=zH (h17.swap.wordsL wd Ik.out);have H17X:=zH h17;clear h17 H17
     go_wp2_with fail
     refine H18.out.mono ?_
     rintro e w18 ⟨rfl,rfl⟩
     clear H18
     go_wp2_with fail
     refine H19.out.mono ?_
     rintro e w19 ⟨rfl,rfl⟩
     clear H19;have H20:=zH ((H17X.out.frame (show _=(star (bO 3 xa xc T.core) (star (bR 27 na nc W') (star (bR 27 ma mc W) (star (Ba 5 va vc U) (star (Ba 5 ua uc U) (star (bO 3 ya yc T.core) emp)))))) by ac_rfl)).spoil cl jW.out (by omega));clear H17X
     go_wp2_with fail
     refine H20.out.mono ?_
     rintro e w20 ⟨rfl,h20⟩
     have H21:=zH h20;clear h20 H20
     go_wp2
     obtain⟨gn,hgn0⟩:∃ n,T.given.length=n:=⟨_,rfl⟩;have hgn:gn≤1000000:=by rw[←hgn0];exact HT.out.giv.1
     have HGN:=zH hgn0;clear hgn0
     go_loopw [22] (fun slotk wq=>∃ (k:Nat) (U2:List Int),k≤un∧slotk=.int .i64 k∧Hid (U2.length=un)∧Hid (BothI w2.heap.size w2 wq q r T  (star (Ba 5 ua uc U2) (star (bR 27 ma mc W) (star (bR 27 na nc W') (star (Ba 5 va vc U) (star (bO 3 ya yc T.core) emp))))))) (fun slotk _=>un-(intOf slotk).toNat)
     case atStart=>exact⟨0,U,Nat.zero_le _,rfl,HUN.out,H21.out.frame (by ac_rfl)⟩
     case round =>
      clear H21;obtain⟨k,U2,hk,rfl,HU2,HBK⟩:=hrel
      by_cases hkl:k<un
      ·have e8:decide ((k:Int)<(un:Int))=true:=by simp;omega
       have q0:(0:Int)≤(k:Int):=by omega
       have q1:(k:Int)<(un:Int):=by omega
       obtain⟨b,rfl,c1,c2,c3⟩:=HBK.out.byte k (by rw[HU2.out];exact hkl);have HC3:=zH (c3 0);clear c3
       go_wp2
       go_roundw
       case rel=>exact⟨k+1,U2.set k 0,by omega,by go_num,by rw[List.length_set];exact HU2.out,HC3.out⟩
       case measure=>simp[intOf];omega
      ·have e8:decide ((k:Int)<(un:Int))=false:=by simp;omega
       have HST:=zH HBK.out.dropH;clear HBK HU2
       go_wp2
       go_loopw [23] (fun slotk wq=>∃ (k:Nat) (W2:vk),k≤ll∧slotk=.int .i64 k∧Hid (Short 65537 ll W2)∧Hid (BothI w2.heap.size w2 wq q r T  (star (bR 27 ma mc W2) (star (bR 27 na nc W') (star (Ba 5 va vc U) (star (bO 3 ya yc T.core) emp)))))) (fun slotk _=>ll-(intOf slotk).toNat)
       case atStart=>exact⟨0,W,Nat.zero_le _,rfl,HW.out.short HT.out.lrn.2,HST.out⟩
       case round =>
        clear HST;obtain⟨k,W2,hk,rfl,Ws,HBK⟩:=hrel
        by_cases hkl:k<ll
        ·have e8:decide ((k:Int)<(ll:Int))=true:=by simp;omega
         have q0:(0:Int)≤(k:Int):=by omega
         have q1:(k:Int)<(ll:Int):=by omega
         obtain⟨x,hx1,hx2⟩:=Ws.out.get hkl;obtain⟨b,hma,c1⟩:=HBK.out.row k x hx1;have hmm:Option.map (fun b=>(⟨b,0,none⟩:Addr)) ma=some ⟨b,0,none⟩:=by rw[hma];rfl
         have HMM:=zH hmm;rw[hmm];clear hma hmm;obtain⟨xn,hxn⟩:∃ n,x.2.2.length=n:=⟨_,rfl⟩;unfold iB at c1;rw[hxn] at c1 hx2;have HSP:=zH (HBK.out.rowSpoil k x hx1 xn hxn (by omega));have HX1:=zH hx1;have HXN:=zH hxn;clear hx1 hxn
         go_wp2_with fail
         refine HSP.out.mono ?_
         rintro e w31 ⟨rfl,ys,hy,h31⟩
         have H31:=zH h31;have HY:=zH hy;clear h31 hy HSP HBK c1
         go_wp2
         refine⟨⟨k+1,W2.set k (x.1,x.2.1,ys),by omega,by go_num,Ws.out.set k x HX1.out ys (HY.out.trans HXN.out.symm),H31.out⟩,?_⟩;simp[intOf];omega
        ·have e8:decide ((k:Int)<(ll:Int))=false:=by simp;omega
         have HST:=zH HBK.out.dropH;clear HBK Ws;have H32:=zH (HST.out.clauses HT.out gn HGN.out);clear HST
         go_wp2_with fail
         refine H32.out.mono ?_
         rintro e w32 ⟨ka,kc,W3,rfl,h32,hW3⟩
         have HST:=zH h32;have HW3:=zH hW3;clear h32 hW3 H32
         go_wp2
         go_loopw [25] (fun slotk wq=>∃ (k:Nat) (W2:vk),k≤gn∧slotk=.int .i64 k∧Hid (Short 1000000 gn W2)∧Hid (BothI w2.heap.size w2 wq q r T  (star (bR 27 ka kc W2) (star (bR 27 na nc W') (star (Ba 5 va vc U) (star (bO 3 ya yc T.core) emp)))))) (fun slotk _=>gn-(intOf slotk).toNat)
         case atStart=>exact⟨0,W3,Nat.zero_le _,rfl,HW3.out.short HT.out.giv.2,HST.out⟩
         case round =>
          clear HST;obtain⟨k,W2,hk,rfl,Ws,HBK⟩:=hrel
          by_cases hkl:k<gn
          ·have e8:decide ((k:Int)<(gn:Int))=true:=by simp;omega
           have q0:(0:Int)≤(k:Int):=by omega
           have q1:(k:Int)<(gn:Int):=by omega
           obtain⟨x,hx1,hx2⟩:=Ws.out.get hkl;obtain⟨b,hma,c1⟩:=HBK.out.row k x hx1;have hmm:Option.map (fun b=>(⟨b,0,none⟩:Addr)) ka=some ⟨b,0,none⟩:=by rw[hma];rfl
           have HMM:=zH hmm;rw[hmm];clear hma hmm;obtain⟨xn,hxn⟩:∃ n,x.2.2.length=n:=⟨_,rfl⟩;unfold iB at c1;rw[hxn] at c1 hx2;have HSP:=zH (HBK.out.rowSpoil k x hx1 xn hxn (by omega));have HX1:=zH hx1;have HXN:=zH hxn;clear hx1 hxn
           go_wp2_with fail
           refine HSP.out.mono ?_
           rintro e w31 ⟨rfl,ys,hy,h31⟩
           have H31:=zH h31;have HY:=zH hy;clear h31 hy HSP HBK c1
           go_wp2
           refine⟨⟨k+1,W2.set k (x.1,x.2.1,ys),by omega,by go_num,Ws.out.set k x HX1.out ys (HY.out.trans HXN.out.symm),H31.out⟩,?_⟩;simp[intOf];omega
          ·have e8:decide ((k:Int)<(gn:Int))=false:=by simp;omega
           have HST:=zH HBK.out.dropH;clear HBK Ws
           go_wp2_with fail
           refine (HST.out.trace HT.out U HU.out un HUN.out).mono ?_;rw[HTE.out]
           rintro e w41 ⟨oa,oc,rfl,h41⟩
           have H41:=zH (h41.core cl jW.out hcl5);clear h41 HST
           go_wp2_with fail
           refine H41.out.mono ?_
           rintro e w42 ⟨za,zc,rfl,h42⟩
           have hrz:=(h42.frame (show _=(star (bO 3 za zc T.core) (star (Ba 5 oa oc U) (star (bR 27 na nc W') (star (Ba 5 va vc U) (star (bO 3 ya yc T.core) emp))))) by ac_rfl)).rdI (by rw[jW.out];omega);have hry:=(h42.frame (show _=(star (bO 3 ya yc T.core) (star (bO 3 za zc T.core) (star (Ba 5 oa oc U) (star (bR 27 na nc W') (star (Ba 5 va vc U) emp))))) by ac_rfl)).rdI (by rw[jW.out];omega);rw[jW.out] at hrz hry;have H42:=zH (h42.ints (c:=zc) (c':=yc) hrz hry);clear h42 hrz hry H41
           go_wp2_with fail
           refine H42.out.mono ?_
           rintro e w43 ⟨rfl,h43⟩
           have hrw:=(h43.frame (show _=(star (Ba 5 oa oc U) (star (bO 3 za zc T.core) (star (bR 27 na nc W') (star (Ba 5 va vc U) (star (bO 3 ya yc T.core) emp))))) by ac_rfl)).rdY (by rw[HUN.out];omega);have I6:=(h43.frame (show _=(star (Ba 5 va vc U) (star (bO 3 za zc T.core) (star (Ba 5 oa oc U) (star (bR 27 na nc W') (star (bO 3 ya yc T.core) emp))))) by ac_rfl)).rdY (by rw[HUN.out];omega);rw[HUN.out] at hrw I6;have H43:=zH (h43.bytes (c:=oc) (c':=vc) hrw I6);clear h43 hrw I6 H42
           go_wp2_with fail
           refine H43.out.mono ?_
           rintro e w44 ⟨rfl,h44⟩
           have H44:=zH (h44.learned HT.out ll LU.out);clear h44 H43
           go_wp2_with fail
           refine H44.out.mono ?_
           rintro e w45 ⟨pa,pc,W4,rfl,h45,hW4⟩
           have hrp:=(h45.frame (show _=(star (bR 27 pa pc W4) (star (bO 3 za zc T.core) (star (Ba 5 oa oc U) (star (bR 27 na nc W') (star (Ba 5 va vc U) (star (bO 3 ya yc T.core) emp)))))) by ac_rfl)).rdX hW4 (fun x hx=>by have:=HT.out.lrn.2 x hx;omega) (by omega);have hrn:=(h45.frame (show _=(star (bR 27 na nc W') (star (bR 27 pa pc W4) (star (bO 3 za zc T.core) (star (Ba 5 oa oc U) (star (Ba 5 va vc U) (star (bO 3 ya yc T.core) emp)))))) by ac_rfl)).rdX HW'.out (fun x hx=>by have:=HT.out.lrn.2 x hx;omega) (by omega);have H45:=zH (h45.lists (c:=pc) (c':=nc) hrp hrn);clear h45 hrp hrn H44 hW4
           go_wp2_with fail
           refine H45.out.mono ?_
           rintro e w46 ⟨rfl,h46⟩
           have H46:=zH (h46.clauses HT.out gn HGN.out);clear h46 H45
           go_wp2_with fail
           refine H46.out.mono ?_
           rintro e w47 ⟨ga,gc,W5,rfl,h47,hW5⟩
           have HW5:=zH hW5;have H47:=zH (h47.clausesR HT.out gn HGN.out);clear h47 H46 hW5
           go_wp2_with fail
           refine H47.out.mono ?_
           rintro e w48 ⟨fa,fc,W6,rfl,h48,hW6⟩
           have hrg:=(h48.frame (show _=(star (bR 27 ga gc W5) (star (bR 27 fa fc W6) (star (bR 27 pa pc W4) (star (bO 3 za zc T.core) (star (Ba 5 oa oc U) (star (bR 27 na nc W') (star (Ba 5 va vc U) (star (bO 3 ya yc T.core) emp)))))))) by ac_rfl)).rdX HW5.out HT.out.giv.2 hgn;have hrf:=h48.rdX hW6 HT.out.giv.2 hgn;have H48:=zH (h48.lists (c:=gc) (c':=fc) hrg hrf);clear h48 hrg hrf H47 hW6
           go_wp2_with fail
           refine H48.out.mono ?_
           rintro e w49 ⟨rfl,h49⟩
           have H49:=zH h49.only;clear h49 H48
           go_wp2
           go_roundw
           case rel=>exact⟨i+1,T,by omega,by go_num,HT.out,H49.out⟩
           case measure=>simp[intOf];omega
   ·obtain rfl:i=n:=by omega
    have e1:decide ((i:Int)<(i:Int))=false:=by simp
    have HB:=zH (HB2.out.trans (HS.out.below.mono HB2.out.size))
    go_wp2
    go_ret
    exact⟨rfl,HB.out⟩
end Go.Proofs.YthbbmdnfkkffjaaGreat

/-
  SatMore: the law's walk: whatever the input, it returns true.
-/
import Derived.Test.YthbbmdnfkkffjaaGreatY44
import Derived.Test.YthbbmdnfkkffjaaGreatYStA
import Derived.Test.YthbbmdnfkkffjaaGreatYSp1
import Derived.Test.YthbbmdnfkkffjaaGreatY01
set_option maxHeartbeats 8000000
set_option maxRecDepth 100000
namespace Go.Proofs.YthbbmdnfkkffjaaGreat
open Go.RowKit Go.Proofs.aC Go.Proofs.aA
open Go.Proofs.au hiding SM
theorem Tryz.infoStepL:(Tryz.prog.info? 29).map (fun i=>(i.zero,i.size,i.bytes))=some (some (.agg #[.int .i64 0,.slice none 0 0]),2,32):=by kernel_rfl
theorem Tryz.infoStepS:(Tryz.prog.info? 29).isSome=true:=by kernel_rfl
theorem sumS_append (l k:List Stp):qG (l++k) (l++k).length=qG l l.length+qG k k.length:=by
 unfold qG;rw[List.take_length,List.take_length,List.take_length,List.map_append,List.sum_append]
theorem ZW.left {l k:List Stp} {v:Int} (h:ZW (l++k) v):ZW l v:=by
 have h1:=h.n;have h2:=h.sum;rw[sumS_append,List.length_append] at h2;rw[List.length_append] at h1;exact⟨by omega,by omega,fun s hs=>h.vars s (List.mem_append_left _ hs)⟩
theorem ZW.right {l k:List Stp} {v:Int} (h:ZW (l++k) v):ZW k v:=by
 have h1:=h.n;have h2:=h.sum;rw[sumS_append,List.length_append] at h2;rw[List.length_append] at h1;exact⟨by omega,by omega,fun s hs=>h.vars s (List.mem_append_right _ hs)⟩
theorem more_verdict {asm oth:List Int} {S T S2 T2:aA.SM} {a b:Int} (h1:Answer asm S T a 0) (h2:Answer (asm++oth) S2 T2 b 0) (hs:∀ c∈S.given,c∈S2.given):a=1∨b=2:=by
 rcases h1.out with ⟨e,_⟩ | ⟨_,_,_,k,_,k2⟩ | ⟨_,_,_,k⟩
 ·exact .inl e
 ·rcases h2.out with ⟨_,_,_,_,_,m,m2⟩ | ⟨e,_⟩ | ⟨_,_,_,q⟩
  ·exfalso;obtain⟨y,hy,ht⟩:=k2 _ (fun c hc=>m c (hs c hc));rw[m2 y (List.mem_append_left _ (k.subset hy))] at ht
   cases ht
  ·exact .inr e
  ·omega
 ·omega
theorem satMore_any (A0:Option Addr) (n0 cap0:Nat) (l:List Stp) (A1:Option Addr) (n1 ai5:Nat) (more:List Stp) (A2:Option Addr) (n2 cap2:Nat) (asm:List Int) (A3:Option Addr) (n3 cap3:Nat) (oth:List Int) (w:World) (hr0:Uh w A0 n0 l) (hr1:Uh w A1 n1 more) (hr2:Rd w A2 n2 asm) (hr3:Rd w A3 n3 oth) (hc0:n0≤cap0) (hb0:n0≤1048576) (_hc1:n1≤ai5) (hb1x:n1≤1048576) :
  Calls Tryz.prog 7 #[.slice A0 n0 cap0,.slice A1 n1 ai5,.slice A2 n2 cap2,.slice A3 n3 cap3] w fun e w'=>e=.returned (.bool true)∧Below w.heap.size w w':=by
 have HR0:=zH hr0;have HR1:=zH hr1;have HR2:=zH hr2;have HR3:=zH hr3;clear hr0 hr1 hr2 hr3
 go_enter Tryz.func7,Tryz.ntmps7
 go_wp2_with fail
 refine (rD w).mono ?_
 rintro e w1 ⟨rfl,hb1⟩
 have HB1:=zH hb1;obtain⟨V0,hv0,ha0⟩:=(HR0.out.grow hb1).ap 29;obtain⟨V1,hv1,hc1⟩:=(HR1.out.grow hb1).stV;have hl0:=HR0.out.len;have hl1:=HR1.out.len;have hV1:V1.length=n1*2:=by rw[hv1.len,hl1]
 have HV0:=zH hv0;have HV1:=zH hv1;have HA0:=zH ha0;have HC1:=zH hc1;have HL1:=zH hV1
 have yw:=zH (show A1=none→n1=0 from fun h=>by
  apply Classical.byContradiction;intro k;obtain⟨b,o,e,_⟩:=HR1.out.cells (by omega)
  rw[e] at h;cases h)
 have HV23:=zH (show LY w1 [.int .i64 0,.slice A2 n2 cap2,.int .i64 0,.slice A3 n3 cap3] [(0,asm),(0,oth)] from (LY.one' (HR2.out.grow hb1)).append (LY.one' (HR3.out.grow hb1)));clear hb1 hv0 ha0 hv1 hc1 hV1
 go_wp2_with (first
  | (at_builtin;refine wpList_append_any rfl _ _ 22 29 (.agg #[.int .i64 0,.slice none 0 0]) 2 32 rfl Tryz.underlying22 Tryz.infoStepL rfl (by omega) A0 n0 n0 V0 HA0.out rfl A1 n1 ai5 V1 rfl HL1.out HC1.out yw.out HV1.out.one (by omega) (by simp only[maxLen];omega) ?_;intro A5 c5 w5 h5;have H5:=zH h5;clear h5)
  | (at_builtin;refine wpList_append_any rfl _ _ 22 29 (.agg #[.int .i64 0,.slice none 0 0]) 2 32 rfl Tryz.underlying22 Tryz.infoStepL rfl (by omega) A5 (n0+n1) c5 (V0++V1) (H5.out.alloc _) rfl (some ⟨w5.heap.size,0,none⟩) 2 2 [.int .i64 0,.slice A2 n2 cap2,.int .i64 0,.slice A3 n3 cap3] rfl rfl (cell_newA w5 _ _) (fun h=>by cases h) HV23.out.one (by omega) (by simp only[maxLen];omega) ?_;intro A6 c6 w6 h6;have H6:=zH h6;clear h6))
 have hb6:=H6.out.st.below;have HV6:=zH (((HV0.out.append HV1.out).append HV23.out).grow hb6);have HB6:=zH (HB1.out.trans (hb6.mono HB1.out.size));have HRS:=zH (Ap.rdS H6.out HV6.out (by omega));obtain⟨L,hL⟩:∃ L,l++more++[(0,asm),(0,oth)]=L:=⟨_,rfl⟩;obtain⟨N,hN⟩:∃ N,n0+n1+2=N:=⟨_,rfl⟩;rw[hL,hN] at HRS;rw[hN];have Db:=zH (rE A6 N c6 L 30 w6 HRS.out (by omega) (by omega));have LU:=zH hL;clear hb6 hL hN hl0 hl1
 go_wp2_with fail
 refine Db.out.mono ?_
 rintro e w7 ⟨b,rfl,hb7,Bu⟩
 have HB7:=zH (HB6.out.trans (hb7.mono HB6.out.size));clear Db hb7
 cases b with
 | false =>
  go_wp2
  go_ret
  exact⟨rfl,HB7.out⟩
 | true =>
  have yY:=Bu rfl;rw[←LU.out] at yY;have hl:=yY.left.left;have hm:=yY.left.right;have ha:=yY.vars (0,asm) (by simp);have ho:=yY.vars (0,oth) (by simp);have hs2:=yY.sum;have hn1:n1≤120:=by have:=hm.n;rw[HR1.out.len] at this;exact this
  have hal:n2≤500∧n3≤500:=by
   have h1:=HR2.out.len;have h2:=HR3.out.len;have h3:=yY.right.sum;rw[qG,List.take_length] at h3;simp at h3;omega
  have HLO:=zH hl;have HMO:=zH hm;have WG:=zH ha;have HOV:=zH ho;obtain⟨Vj,ah8⟩:=hal;obtain⟨xa,hxa⟩:∃ b,hasB asm 0=b:=⟨_,rfl⟩;obtain⟨xo,hxo⟩:∃ b,hasB oth 0=b:=⟨_,rfl⟩;have HXA:=zH hxa;have HXO:=zH hxo;have HH2:=zH (sJ A2 n2 cap2 asm 0 w7 (HR2.out.grow HB7.out));have HH3:=zH (sJ A3 n3 cap3 oth 0 w7 (HR3.out.grow HB7.out));rw[hxa] at HH2;rw[hxo] at HH3;clear Bu yY hl hm ha ho hs2 hxa hxo LU HRS HV6 H6 HV0 HV1 HV23 HA0 HC1 HL1 yw H5
  go_wp2_with fail
  refine HH2.out.mono ?_
  rintro e w8 ⟨rfl,rfl⟩
  clear HH2
  cases xa with
  | true =>
   go_wp2
   go_ret
   exact⟨rfl,HB7.out⟩
  | false =>
   go_wp2_with fail
   refine HH3.out.mono ?_
   rintro e w8 ⟨rfl,rfl⟩
   clear HH3
   cases xo with
   | true =>
    go_wp2
    go_ret
    exact⟨rfl,HB7.out⟩
   | false =>
    have hall2:=lH (by omega) WG.out HXA.out;have hall3:=lH (by omega) HOV.out HXO.out;have Dk:=zH (show (asm++oth).all fC=true by rw[List.all_append,hall2,hall3];rfl);have HAL2:=zH hall2;have Wj:=zH (HR2.out.grow HB7.out);have HQ3:=zH (HR3.out.grow HB7.out);have HQ1:=zH (HR1.out.grow HB7.out);have FB:=zH (SC A0 n0 cap0 l 30 w7 (HR0.out.grow HB7.out) HLO.out);clear hall2 hall3
    go_wp2_with fail
    refine FB.out.mono ?_
    rintro e w9 ⟨q,S,rfl,h9,hz⟩
    clear FB;obtain⟨a1,a2,a3⟩:=fO hz (by omega) (xs:=asm) (by rw[Wj.out.len];omega) HAL2.out;have Ai:=zH (jH A2 n2 cap2 asm h9 (fun w' P k=>Wj.out.grow k.below) (fun _=>a1));obtain⟨R,hR⟩:∃ R,bK S asm=R:=⟨_,rfl⟩;rw[hR] at a2 a3 Ai;have HZ2:=zH a2;have HA:=zH a3;clear a1 a2 a3 hR h9 hz
    go_wp2_with fail
    refine Ai.out.mono ?_
    rintro e w10 ⟨rfl,h10⟩
    have DJ:=zH h10;clear h10 Ai
    go_wp2
    go_loopw [12] (fun v12 wr=>∃ (i:Nat) (U:aA.SM),i≤n1∧v12=.int .i64 i∧Hid (Zs 1 U)∧Hid (∀ c∈S.given,c∈U.given)∧Hid (bL w7.heap.size w7 wr q U emp)) (fun v12 _=>n1-(intOf v12).toNat)
    case atStart=>exact⟨0,R.1,Nat.zero_le _,rfl,HZ2.out,zH (fun c hc=>by rw[HA.out.given];exact hc),DJ.out⟩
    case round =>
     clear DJ HZ2;obtain⟨i,U,hi,rfl,HZ,HG,HS⟩:=hrel
     by_cases hin:i<n1
     ·have e1:decide ((i:Int)<(n1:Int))=true:=by simp;omega
      obtain⟨ab,ao,rfl,hc⟩:=HQ1.out.cells (by omega);obtain⟨LM,Aj,cj,dd1,pI⟩:=hc i hin;have d0:=(HS.out.below.cell (World.block_lt_of_cell? w7 _ LM)).trans LM;have d1:=(HS.out.below.cell (World.block_lt_of_cell? w7 _ dd1)).trans dd1;have kC:=pI.grow HS.out.below;obtain⟨s,hs⟩:∃ s,gs more i=s:=⟨_,rfl⟩
      have hls:s.2.length≤500:=by
       have h1:=jJ more (j:=i) (by rw[HR1.out.len];exact hin);have h2:=nM more (show i+1≤more.length by rw[HR1.out.len];omega);have h3:=HMO.out.sum;rw[hs] at h1;omega
      rw[hs] at d0 d1 kC;obtain⟨ln,hln⟩:∃ ln,s.2.length=ln:=⟨_,rfl⟩;rw[hln] at d1 kC hls;have Gy:=zH kC;have p0:(0:Int)≤(i:Int):=by omega
      have p1:(i:Int)<(n1:Int):=by omega
      clear hc hs kC hln LM dd1 pI
      by_cases hx:s.1<2
      ·have e2:decide (s.1<2)=true:=by simpa using hx
       obtain⟨a1,a2⟩:=rF HZ.out s.2;have HAD:=zH (lD Aj ln cj s.2 HS.out Gy.out (by omega) a1);have HZ2:=zH a2.zs
       have HG2:=zH (show ∀ c∈S.given,c∈(fU U s.2).1.given from fun c hc=>by
        by_cases h0:(fU U s.2).2=0
        ·rw[(a2.yes h0).2.1];exact List.mem_append_left _ (HG.out c hc)
        ·rw[(a2.no h0).1];exact HG.out c hc)
       clear a1 a2
       go_wp2_with fail
       refine HAD.out.mono ?_
       rintro e w12 ⟨rfl,h5⟩
       have H5:=zH h5;clear h5 HAD
       go_wp2
       go_roundw
       case rel=>exact⟨i+1,_,by omega,by go_num,HZ2.out,HG2.out,H5.out⟩
       case measure=>simp[intOf];omega
      ·have e2:decide (s.1<2)=false:=by simpa using hx
       go_wp2
       go_roundw
       case rel=>exact⟨i+1,U,by omega,by go_num,HZ.out,HG.out,HS.out⟩
       case measure=>simp[intOf];omega
     ·obtain rfl:i=n1:=by omega
      have e1:decide ((i:Int)<(i:Int))=false:=by simp
      have HN0:=zH (show St wr.heap.size wr wr (star (bO 3 none 0 []) emp) from⟨Below.refl _ _,Nat.le_refl _,(Sat.emp _ _).uh _ _⟩);have HQ4:=zH (Wj.out.grow HS.out.below)
      go_wp2_with (first
       | (at_builtin;refine gG rfl _ _ 27 3 rfl Tryz.underlying27 Tryz.gQ HN0.out 0 rfl A2 n2 cap2 asm HQ4.out rfl rfl (by omega) ?_;intro a13 c13 w13 FE;have Wo:=zH FE;clear FE)
       | (at_builtin;refine gG rfl _ _ 27 3 rfl Tryz.underlying27 Tryz.gQ Wo.out n2 (by rw[List.nil_append,Wj.out.len]) A3 n3 cap3 oth (HQ3.out.grow (HS.out.below.trans (Wo.out.below.mono HS.out.below.size))) rfl rfl (by omega) ?_;intro a14 c14 w14 QX;have H14:=zH QX;clear QX))
      have Qd:=HS.out.nest H14.out;have H15:=zH (Qd.frame (show _=star (bO 3 a14 c14 (asm++oth)) emp by simp only[List.nil_append,aQ]));clear Qd;have hlen:(asm++oth).length=n2+n3:=by rw[List.length_append,Wj.out.len,HQ3.out.len]
      obtain⟨a1,a2,a3⟩:=fO HZ.out (by omega) (xs:=asm++oth) (by rw[hlen];omega) Dk.out;have Ai:=zH (jH (a14.map fun b=>⟨b,0,none⟩) (n2+n3) c14 (asm++oth) H15.out (fM.here _ hlen (by rw[hlen];omega)) (fun _=>a1));obtain⟨R2,hR2⟩:∃ R,bK U (asm++oth)=R:=⟨_,rfl⟩;rw[hR2] at a2 a3 Ai;have HA2:=zH a3;clear a1 a2 a3 hR2 hlen
      go_wp2_with fail
      refine Ai.out.mono ?_
      rintro e w16 ⟨rfl,h16⟩
      have HB16:=zH (HB7.out.trans (h16.below.mono HB7.out.size));clear h16 Ai
      have hkey:R.2.2≠0∨R2.2.2≠0∨R.2.1=1∨R2.2.1=2:=by
       by_cases h1:R.2.2=0
       ·by_cases h2:R2.2.2=0
        ·have k1:=HA.out;have k2:=HA2.out;rw[h1] at k1;rw[h2] at k2;exact .inr (.inr (more_verdict k1 k2 HG.out))
        ·exact .inr (.inl h2)
       ·exact .inl h1
      by_cases h1:R.2.2=0
      ·have e3:(R.2.2 != 0)=false:=by simpa using h1
       have e4:decide (R.2.2=0)=true:=by simpa using h1
       by_cases h2:R2.2.2=0
       ·have e5:(R2.2.2 != 0)=false:=by simpa using h2
        have e6:decide (R2.2.2=0)=true:=by simpa using h2
        by_cases h3:R.2.1=1
        ·have e7:(R.2.1==1)=true:=by simpa using h3
         have e8:decide (R.2.1=1)=true:=by simpa using h3
         clear hkey h1 h2 h3
         go_wp2
         go_ret
         exact⟨rfl,HB16.out⟩
        ·have h4:R2.2.1=2:=by omega
         have e7:(R.2.1==1)=false:=by simpa using h3
         have e8:decide (R.2.1=1)=false:=by simpa using h3
         have e9:(R2.2.1==2)=true:=by simpa using h4
         have e10:decide (R2.2.1=2)=true:=by simpa using h4
         clear hkey h1 h2 h3 h4
         go_wp2
         go_ret
         exact⟨rfl,HB16.out⟩
       ·have e5:(R2.2.2 != 0)=true:=by simpa using h2
        have e6:decide (R2.2.2=0)=false:=by simpa using h2
        clear hkey h1 h2
        go_wp2
        go_ret
        exact⟨rfl,HB16.out⟩
      ·have e3:(R.2.2 != 0)=true:=by simpa using h1
       have e4:decide (R.2.2=0)=false:=by simpa using h1
       clear hkey h1
       go_wp2
       go_ret
       exact⟨rfl,HB16.out⟩
end Go.Proofs.YthbbmdnfkkffjaaGreat

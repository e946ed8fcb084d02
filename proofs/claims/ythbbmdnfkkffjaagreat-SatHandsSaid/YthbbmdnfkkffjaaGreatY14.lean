/-
  Parts of the proof, joined by program: Un, End.
-/
import Derived.Test.YthbbmdnfkkffjaaGreatY08
import Derived.Test.YthbbmdnfkkffjaaGreatY13
import Derived.Test.YthbbmdnfkkffjaaGreatY01
import Derived.Deep.DeepCutAuto
import Derived.Deep.RegionWith
import Derived.Lib.Hide
set_option maxHeartbeats 8000000
set_option maxRecDepth 100000
namespace Go.Proofs.YthbbmdnfkkffjaaGreat
open Go.RowKit Go.Proofs.aC Go.Proofs.au Go.Proofs.aA
abbrev MM.dJ (M:MM) (u:Fl Int) (st:Fl (Fl Int)):MM:={ M with units:=u,steps:=st }
section
variable {p:Nat} {F:HP} {B:Nat} {w0:World}
theorem FD {Z:Nat→Prop} {rk:Nat→Nat} (d:Nat):∀ (w:World) (M:MM) (F:HP) (v:Nat),At B w0 w p M F→zG M.sv Z rk→Z v→rk v<d →
  Calls Tryz.prog 88 #[.pointer (some ⟨p,0,none⟩),.int .i64 v] w fun e w'=>e=.returned (.int .i64 (SM.bY d M.sv v).2) ∧
   ∃ u st,At B w0 w' p (M.dJ u st) F∧MM.sv (M.dJ u st)=(SM.bY d M.sv v).1:=by
 induction d with
 | zero=>intro _ _ _ _ _ _ _ h;omega
 | succ d ih =>
  intro w M F v h hu hz hd;have IH:=zH ih;clear ih;have hvl:=hu.z v hz;have Yd:v<M.value.xs.length:=hvl;have UW:M.units.xs.length=M.value.xs.length:=hu.units;obtain⟨bu,hbu⟩:=h.S9 (by omega);obtain⟨x,hx⟩:∃ x,gi M.units.xs v=x:=⟨_,rfl⟩;obtain⟨d1,_⟩:=h.Ku hbu (i:=v) (x:=x) (by rw[←hx];exact gT _ _ (by omega));have c1:=h.zf;obtain⟨nu,hnu⟩:∃ n,M.units.xs.length=n:=⟨_,rfl⟩;rw[hbu,hnu] at c1;simp only[Option.map_some] at c1;simp only[vI] at d1;have i0:(0:Int)≤(v:Int):=by omega
  have i1:(v:Int)<(nu:Int):=by omega
  have H:=zH h;have HU:=zH hu;have HZ:=zH hz;have HX:=zH hx;have HNU:=zH hnu;have HBU:=zH hbu;have Qv:=zH Yd;clear h hu hz hx hvl UW hnu hbu Yd
  by_cases hx1:x=-1
  ·subst hx1;have e1:decide ((-1:Int)=-1)=true:=by simp
   obtain⟨r,g1,g2,g3,g4⟩:=HU.out.r v HZ.out;have hrl:M.reason.xs.length=M.value.xs.length:=HU.out.reason;obtain⟨br,hbr⟩:=H.out.uF (by have:=Qv.out;omega);obtain⟨d2,_⟩:=H.out.qK hbr (i:=v) (x:=(r:Int)) (by rw[←g1];exact gT _ _ (by have:=Qv.out;show v<M.reason.xs.length;omega));have c2:=H.out.nO;obtain⟨nr,hnr⟩:∃ n,M.reason.xs.length=n:=⟨_,rfl⟩;rw[hbr,hnr] at c2;have hcl:M.sv.cls.length=M.cls.xs.length:=by show (M.cls.xs.map _).length=_;rw[List.length_map]
   rw[hcl] at g2;obtain⟨⟨rr,rd⟩,hi⟩:∃ x,M.cls.xs[r]?=some x:=⟨M.cls.xs[r],by simp[g2]⟩;obtain⟨bc,hbc⟩:=H.out.IY (by omega);have o1:=H.out.wI hbc hi;have c3:=H.out.uz;obtain⟨nc,hnc⟩:∃ n,M.cls.xs.length=n:=⟨_,rfl⟩;rw[hbc,hnc] at c3;simp only[Option.map_some] at c2 c3;simp only[vI] at d2;obtain⟨q1,q2⟩:=Cq hi;have i2:(v:Int)<(nr:Int):=by have:=Qv.out;omega
   have r0:(0:Int)≤(r:Int):=by omega
   have r1:(r:Int)<(nc:Int):=by omega
   obtain⟨ra,hra⟩:∃ ra,(rr.a.map fun b=>(⟨b,0,none⟩:Addr))=ra:=⟨_,rfl⟩;obtain⟨n,hn⟩:∃ n,rr.xs.length=n:=⟨_,rfl⟩;rw[hra,hn] at o1;have al:=fun (o:Obj) (a:Addr) (v:Value) (k:w.cell? a=some v)=>(World.cell?_alloc_some (w:=w) a o (by rw[k];rfl)).trans k;have a2:=fun o=>al o _ _ c2;have a3:=fun o=>al o _ _ c3;have a4:=fun o=>al o _ _ d2;have a5:=fun o=>al o _ _ o1.1;have a6:=fun o=>al o _ _ o1.2;obtain⟨o1,o2⟩:=o1;clear al
   go_enter Tryz.func88,Tryz.ntmps88
   go_upto_region 2 with fail
   go_region
   have h1:At B w0 (w.alloc (Obj.cells #[Value.slice ra n rr.c,Value.int IntKind.i64 rd] 123)).drew p M (star (pt w.heap.size 123 [.slice ra n rr.c,.int .i64 rd]) F):=(H.out.box _ _).drewN 1;obtain⟨b0,hb0⟩:∃ b0,w.heap.size=b0:=⟨_,rfl⟩;rw[hb0] at h1 ⊢;revert h1;generalize (w.alloc (Obj.cells #[Value.slice ra n rr.c,Value.int IntKind.i64 rd] 123)).drew=w1;intro h1;have H1:=zH h1;have HG:=zH g4;have HQ1:=zH q1;have Wj:=zH q2;have HI:=zH hi;have KJ:=zH hra;have HN:=zH hn;have Jb:=zH g1;have hnb:n≤100000:=by rw[←hn,←q1];exact g3
   have HBC:=zH hbc;clear h1 g4 q1 q2 hi hra hn g1 g3 a2 a3 a4 a5 a6 o1 o2 c1 c2 c3 d1 d2 hrl hbr hcl hbc hnc g2 hnr hb0;obtain⟨k0,k1⟩:w1.cell? ⟨b0,0,none⟩=some (.slice ra n rr.c)∧w1.cell? ⟨b0,1,none⟩=some (.int .i64 rd):=⟨(H1.out.cu 0).1,(H1.out.cu 1).1⟩
   go_upto_region 4 with fail
   have h2:=H1.out.new1 (.int .i64 rd) 3;have H2:=zH h2;have k2:(w1.alloc (Obj.cells #[Value.int IntKind.i64 rd] 3)).cell? ⟨b0,0,none⟩=some (.slice ra n rr.c):=(World.cell?_alloc_some _ _ _ (by rw[k0];rfl)).trans k0;obtain⟨b1,hb1⟩:∃ b1,w1.heap.size=b1:=⟨_,rfl⟩;rw[hb1] at H2 ⊢;clear h2 hb1 k0 k1 H1;revert k2 H2;generalize w1.alloc (Obj.cells #[Value.int IntKind.i64 rd] 3)=w2;intro k2 H2
   go_wp2
   clear k2
   go_loopg [6,37] n (fun g s6 s37 wr=>∃ (k m:Nat) (fr:Fl Int) (u:Fl Int) (st:Fl (Fl Int)),s6=.slice (fr.a.map fun b=>⟨b,0,none⟩) m fr.c∧s37=.int .i64 k∧fr.xs.length=m∧0<m∧m≤k+1∧k≤n∧Hid (g=n-k) ∧
    Hid (At B w0 wr p (M.dJ u st) (star (fr.hp 3 vI) (star (pt b0 123 [.slice ra n rr.c,.int .i64 rd]) F)))∧Hid (tX M.sv (MM.sv (M.dJ u st)))∧Hid (SM.iU (SM.bY d) (MM.sv (M.dJ u st)) v (rr.xs.drop k) fr.xs=SM.iU (SM.bY d) M.sv v rr.xs [rd]))
   case atStart=>exact⟨0,1,⟨some b1,1,[rd]⟩,M.units,M.steps,rfl,rfl,rfl,Nat.one_pos,Nat.le_refl _,Nat.zero_le _,rfl,H2.out,zH (tX.refl _),rfl⟩
   case round =>
    obtain⟨k,m,fr,u,st,rfl,rfl,hfl,hm0,hmk,hkn,hg,H3,HT,HE⟩:=hrel
    by_cases hkl:k<n
    ·have e2:decide ((k:Int)<(n:Int))=true:=by simp;omega
     obtain⟨bl,hbl⟩:=(H3.out.wY (M:=M.dJ u st) HI.out).1 (by rw[HN.out];omega);obtain rfl:ra=some ⟨bl,0,none⟩:=by rw[←KJ.out,hbl];rfl
     obtain⟨l,hl⟩:∃ l,gn rr.xs k=l:=⟨_,rfl⟩;have hkx:k<rr.xs.length:=by rw[HN.out];exact hkl
     obtain⟨k3,_⟩:=H3.out.iE (M:=M.dJ u st) HI.out hbl (j:=k) (x:=l) (by rw[←hl];exact aM _ _ hkx);obtain⟨l1,l2⟩:=HG.out l (by rw[HQ1.out,←hl];exact aU _ _ hkx);have hsm:M.sv.value.length≤100000:=HU.out.small;have Ye:l<1000000:=by omega
     have hdr:rr.xs.drop k=l :: rr.xs.drop (k+1):=by rw[←hl,fD _ _ hkx];exact List.drop_eq_getElem_cons hkx
     have hE:=HE.out;rw[hdr,SM.iU] at hE;have HV:=zH (fun V=>pQ l V Ye);obtain⟨q,hq⟩:∃ q,l/2=q:=⟨_,rfl⟩;rw[hq] at HV l1 l2 hE;have HE2:=zH hE;have HL2:=zH l2;have HHL:=zH hl;have KF:=zH hbl;have p0:(0:Int)≤(k:Int):=by omega
     have p1:(k:Int)<(n:Int):=by omega
     clear hE l2 hl hbl hdr hq hkx hsm
     go_wp2_with fail
     refine (HV.out _).mono ?_
     rintro e w3 ⟨rfl,rfl⟩
     by_cases hqv:q=v
     ·have e3:decide ((q:Int)=(v:Int))=true:=by simp;omega
      go_wp2
      go_roundg (n-(k+1))
      case measure=>have:=hg.out;omega
      case rel=>exact⟨k+1,m,fr,u,st,rfl,by go_num,hfl,hm0,by omega,by omega,rfl,H3.out,HT,zH (by have h9:=HE2.out;rw[if_pos hqv] at h9;exact h9)⟩
     ·have e3:decide ((q:Int)=(v:Int))=false:=by simp;omega
      obtain⟨z1,z2⟩:=HL2.out hqv;have HC:=zH (IH.out _ _ _ q H3.out (HU.out.AY HT.out) z1 (by omega));have HTO:=zH (vM d (HU.out.AY HT.out) z1 (show rk q<d by omega)).1;clear z1 z2
      go_wp2_with fail
      refine (HV.out _).mono ?_
      rintro e w3 ⟨rfl,rfl⟩
      go_wp2_with fail
      refine HC.out.mono ?_
      rintro e w3 ⟨rfl,u2,st2,h4,h5⟩
      obtain⟨x,hx⟩:∃ x,(SM.bY d (MM.sv (M.dJ u st)) q).2=x:=⟨_,rfl⟩;rw[hx];have tY:=zH (show MM.sv (M.dJ u2 st2)=(SM.bY d (MM.sv (M.dJ u st)) q).1 from h5);have HX5:=zH hx;have MO:At B w0 w3 p (M.dJ u2 st2) (star (fr.hp 3 vI) (star (pt b0 123 [.slice (some ⟨bl,0,none⟩) n rr.c,.int .i64 rd]) F)):=h4;have MP:=zH (MO.ML hfl);have fP:=zH MO.bA;clear h4 h5 hx MO HC k3
      go_wp2_with (at_builtin;refine aO rfl _ _ 27 3 (.int .i64 0) 8 rfl Tryz.underlying27 Tryz.bW rfl MP.out rfl (.int .i64 x) rfl rfl (by omega) (by simp only[maxLen];omega) ?_;intro b' c' w5 hs;have h6:=At.MN (M:=M.dJ u2 st2) (enc:=vI) (x:=x) fP.out hfl hs;have H6:=zH h6;clear hs h6)
      go_roundg (n-(k+1))
      case measure=>have:=hg.out;omega
      case rel=>exact⟨k+1,m+1,⟨some b',c',fr.xs++[x]⟩,u2,st2,rfl,by go_num,by simp[hfl],by omega,by omega,by omega,rfl,H6.out,zH (by rw[tY.out];exact HT.out.trans HTO.out.AY),zH (by have h9:=HE2.out;rw[if_neg hqv] at h9;rw[tY.out,←HX5.out];exact h9)⟩
    ·obtain rfl:k=n:=by omega
     have e2:decide ((k:Int)<(k:Int))=false:=by simp
     have hR:SM.iU (SM.bY d) M.sv v rr.xs [rd]=(MM.sv (M.dJ u st),fr.xs):=by rw[←HE.out,List.drop_of_length_le (by rw[HN.out];exact Nat.le_refl _)];rfl
     have HRR:=zH hR;clear hR HE hg
     have hus:u.xs.length=nu:=by
      have h9:=HT.out.units;have h8:u.xs.length=M.units.xs.length:=h9;rw[h8];exact HNU.out
     have HUS:=zH hus;obtain⟨bv,hbv⟩:=H3.out.S9 (M:=M.dJ u st) (by show 0<u.xs.length;omega);have UY:u.a=some bv:=hbv;have c1:=H3.out.zf (M:=M.dJ u st)
     have c2:wr.cell? ⟨p,20,none⟩=some (.slice (some ⟨bv,0,none⟩) nu u.c):=by
      have h9:wr.cell? ⟨p,20,none⟩=some (.slice (u.a.map fun b=>⟨b,0,none⟩) u.xs.length u.c):=c1;rw[UY,hus] at h9;exact h9
     have ad5:=Mv (M:=M.dJ u st) fr (show At B w0 wr.drew p (M.dJ u st) _ from H3.out.drewN 1) (by omega) (by omega) (by
      have h9:=HT.out.uI;have h8:=HU.out.uI;have h7:(MM.sv (M.dJ u st)).steps.length=st.xs.length:=by show (st.xs.map _).length=_;rw[List.length_map]
      show st.xs.length≤5000000
      omega)
     have hfv:fr.v=.slice (fr.a.map fun b=>⟨b,0,none⟩) m fr.c:=by unfold Fl.v;rw[hfl]
     rw[hfv] at ad5;have HST:=zH ad5;have Ic:=zH UY;clear ad5 hus hbv UY c1 hfv
     go_upto_region 10 with fail
     refine dn 12 (fun V:World=>V.cell? ⟨p,20,none⟩=some (.slice (some ⟨bv,0,none⟩) nu u.c)) (by kernel_rfl) ?_;have bB:(fun V:World=>V.cell? ⟨p,20,none⟩=some (.slice (some ⟨bv,0,none⟩) nu u.c)) wr.drew:=c2;refine ay (i:=0) (v:=?v1) rfl (by kernel_rfl) (by kernel_rfl) (by kernel_rfl) (by kernel_rfl) (fun _ _ _ h=>h) rfl ?hy1 bB ?_
     case hy1 =>
      intro V aF
      try dsimp only at aF
      first | (obtain⟨aS,aT,cK⟩:=aF) | (obtain⟨aS,aT⟩:=aF) | skip
      go_simp
      try with_reducible rfl
     try simp only[Act.put,List.setIfInBounds_toArray,List.set_cons_zero,List.set_cons_succ]
     refine ay (i:=1) (v:=?v2) rfl (by kernel_rfl) (by kernel_rfl) (by kernel_rfl) (by kernel_rfl) (fun _ _ _ h=>h) rfl ?hy2 bB ?_
     case hy2 =>
      intro V aF
      try dsimp only at aF
      first | (obtain⟨aS,aT,cK⟩:=aF) | (obtain⟨aS,aT⟩:=aF) | skip
      go_simp
      try with_reducible rfl
     try simp only[Act.put,List.setIfInBounds_toArray,List.set_cons_zero,List.set_cons_succ]
     refine ay (i:=2) (v:=?v3) rfl (by kernel_rfl) (by kernel_rfl) (by kernel_rfl) (by kernel_rfl) (fun _ _ _ h=>h) rfl ?hy3 bB ?_
     case hy3 =>
      intro V aF
      try dsimp only at aF
      first | (obtain⟨aS,aT,cK⟩:=aF) | (obtain⟨aS,aT⟩:=aF) | skip
      go_simp
      try with_reducible rfl
     try simp only[Act.put,List.setIfInBounds_toArray,List.set_cons_zero,List.set_cons_succ]
     refine ay (i:=3) (v:=?v4) rfl (by kernel_rfl) (by kernel_rfl) (by kernel_rfl) (by kernel_rfl) (fun _ _ _ h=>h) rfl ?hy4 bB ?_
     case hy4 =>
      intro V aF
      try dsimp only at aF
      first | (obtain⟨aS,aT,cK⟩:=aF) | (obtain⟨aS,aT⟩:=aF) | skip
      go_simp
      try with_reducible rfl
     try simp only[Act.put,List.setIfInBounds_toArray,List.set_cons_zero,List.set_cons_succ]
     refine ay (i:=4) (v:=?v5) rfl (by kernel_rfl) (by kernel_rfl) (by kernel_rfl) (by kernel_rfl) (fun _ _ _ h=>h) rfl ?Qx bB ?_
     case Qx =>
      intro V aF
      try dsimp only at aF
      first | (obtain⟨aS,aT,cK⟩:=aF) | (obtain⟨aS,aT⟩:=aF) | skip
      go_simp
      try with_reducible rfl
     try simp only[Act.put,List.setIfInBounds_toArray,List.set_cons_zero,List.set_cons_succ]
     refine ay (i:=5) (v:=?v6) rfl (by kernel_rfl) (by kernel_rfl) (by kernel_rfl) (by kernel_rfl) (fun _ _ _ h=>h) rfl ?Ih bB ?_
     case Ih =>
      intro V aF
      try dsimp only at aF
      first | (obtain⟨aS,aT,cK⟩:=aF) | (obtain⟨aS,aT⟩:=aF) | skip
      go_simp
      try with_reducible rfl
     try simp only[Act.put,List.setIfInBounds_toArray,List.set_cons_zero,List.set_cons_succ]
     refine ay (i:=6) (v:=?v7) rfl (by kernel_rfl) (by kernel_rfl) (by kernel_rfl) (by kernel_rfl) (fun _ _ _ h=>h) rfl ?UL bB ?_
     case UL =>
      intro V aF
      try dsimp only at aF
      first | (obtain⟨aS,aT,cK⟩:=aF) | (obtain⟨aS,aT⟩:=aF) | skip
      go_simp
      try with_reducible rfl
     try simp only[Act.put,List.setIfInBounds_toArray,List.set_cons_zero,List.set_cons_succ]
     refine ay (i:=7) (v:=?v8) rfl (by kernel_rfl) (by kernel_rfl) (by kernel_rfl) (by kernel_rfl) (fun _ _ _ h=>h) rfl ?WT bB ?_
     case WT =>
      intro V aF
      try dsimp only at aF
      first | (obtain⟨aS,aT,cK⟩:=aF) | (obtain⟨aS,aT⟩:=aF) | skip
      go_simp
      try with_reducible rfl
     try simp only[Act.put,List.setIfInBounds_toArray,List.set_cons_zero,List.set_cons_succ]
     refine ay (i:=8) (v:=?v9) rfl (by kernel_rfl) (by kernel_rfl) (by kernel_rfl) (by kernel_rfl) (fun _ _ _ h=>h) rfl ?hy9 bB ?_
     case hy9 =>
      intro V aF
      try dsimp only at aF
      first | (obtain⟨aS,aT,cK⟩:=aF) | (obtain⟨aS,aT⟩:=aF) | skip
      go_simp
      try with_reducible rfl
     try simp only[Act.put,List.setIfInBounds_toArray,List.set_cons_zero,List.set_cons_succ]
     refine ay (i:=9) (v:=?v10) rfl (by kernel_rfl) (by kernel_rfl) (by kernel_rfl) (by kernel_rfl) (fun _ _ _ h=>h) rfl ?KG bB ?_
     case KG =>
      intro V aF
      try dsimp only at aF
      first | (obtain⟨aS,aT,cK⟩:=aF) | (obtain⟨aS,aT⟩:=aF) | skip
      go_simp
      try with_reducible rfl
     try simp only[Act.put,List.setIfInBounds_toArray,List.set_cons_zero,List.set_cons_succ]
     refine bf (i:=10) (by kernel_rfl) rfl (fun K hK=>?_)
     go_simp
     refine HST.out.mono ?_
     rintro e w4 ⟨rfl,s4,h4,h5⟩
     have yw:(fun V:World=>V.cell? ⟨p,20,none⟩=some (.slice (some ⟨bv,0,none⟩) nu u.c)) w4:=by
      have h9:w4.cell? ⟨p,20,none⟩=some (.slice (u.a.map fun b=>⟨b,0,none⟩) u.xs.length u.c):=h4.zf;rw[Ic.out,HUS.out] at h9;exact h9
     obtain⟨x,hx⟩:∃ x,(SM.step (MM.sv (M.dJ u st)) fr.xs).2=x:=⟨_,rfl⟩;rw[hx];have MO:At B w0 w4 p (M.dJ u s4) (star (pt b0 123 [.slice ra k rr.c,.int .i64 rd]) F):=h4;have hvu:v<u.xs.length:=by rw[HUS.out];omega
     have d3:=(MO.Ku Ic.out (i:=v) (x:=gi u.xs v) (gT _ _ hvu));obtain⟨d4,d5⟩:=d3;have h6:=MO.Us Ic.out hvu x;have H6:=zH h6;have zO:=zH h5;have HX6:=zH hx;clear h4 MO h6 h5 hx HST;refine hK _ _ yw ?_;clear hK K
     try simp only[Act.put,List.setIfInBounds_toArray,List.set_cons_zero,List.set_cons_succ]
     refine ay (i:=11) (v:=?v11) rfl (by kernel_rfl) (by kernel_rfl) (by kernel_rfl) (by kernel_rfl) (fun _ _ _ h=>h) rfl ?KH yw ?_
     case KH =>
      intro V aF
      try dsimp only at aF
      first | (obtain⟨aS,aT,cK⟩:=aF) | (obtain⟨aS,aT⟩:=aF) | skip
      go_simp
      try with_reducible rfl
     try simp only[Act.put,List.setIfInBounds_toArray,List.set_cons_zero,List.set_cons_succ]
     refine iy (by kernel_rfl) rfl (by kernel_rfl) (fun K hK=>?_)
     go_simp
     refine hK _ _ ?_;clear hK K;clear bB yw c2 d4 d5
     have hE:SM.bY (d+1) M.sv v=(MM.sv (M.dJ ⟨u.a,u.c,u.xs.set v x⟩ s4),x):=by
      rw[SM.bY,if_pos (show gi M.sv.units v=-1 from HX.out)];dsimp only;rw[Jb.out,Int.toNat_natCast,HQ1.out,Wj.out,HRR.out];dsimp only;rw[HX6.out,←zO.out];rfl
     have HEE:=zH hE;have H7:=zH (show At B w0 (w4.setCell ⟨bv,v,none⟩ (.int .i64 x)) p (M.dJ ⟨u.a,u.c,u.xs.set v x⟩ s4) (star (pt b0 123 [.slice ra k rr.c,.int .i64 rd]) F) from H6.out);clear hE H6 zO HX6 HRR;revert H7;generalize w4.setCell ⟨bv,v,none⟩ (.int .i64 x)=w5;intro H7;have hlu:(u.xs.set v x).length=nu:=by rw[List.length_set];exact HUS.out
     have c3:w5.cell? ⟨p,20,none⟩=some (.slice (some ⟨bv,0,none⟩) nu u.c):=by
      have h9:w5.cell? ⟨p,20,none⟩=some (.slice (u.a.map fun b=>⟨b,0,none⟩) (u.xs.set v x).length u.c):=H7.out.zf;rw[Ic.out,hlu] at h9;exact h9
     obtain⟨d6,_⟩:=H7.out.Ku Ic.out (i:=v) (x:=x) (by show (u.xs.set v x)[v]?=some x;rw[List.getElem?_set_self hvu]);simp only[vI] at d6;clear hlu hvu
     go_wp2
     go_ret
     exact⟨by rw[HEE.out];rfl,_,_,H7.out.iL,by rw[HEE.out]⟩
  ·have e1:decide (x=-1)=false:=by simpa using hx1
   go_enter Tryz.func88,Tryz.ntmps88
   go_wp2
   go_ret
   have hE:SM.bY (d+1) M.sv v=(M.sv,x):=by
    rw[SM.bY,if_neg (by rw[show gi M.sv.units v=x from HX.out];exact hx1),show gi M.sv.units v=x from HX.out]
   exact⟨by rw[hE];rfl,M.units,M.steps,H.out,by rw[hE]⟩
end
abbrev MM.qR (M:MM) (la:Fl Int) (u:Fl Int) (st:Fl (Fl Int)):MM:={ M with core:=⟨none,0,[]⟩,last:=la,units:=u,steps:=st }
section
variable {B:Nat} {w0 w:World} {p:Nat} {M:MM} {F:HP}
theorem At.qU (h:At B w0 w p M F):At B w0 (w.setCell ⟨p,22,none⟩ (.slice none 0 0)) p (M.ql ⟨none,0,[]⟩) F :=
 At.Wy (a:=none) (n:=0) (c:=0) (xs:=[]) (h.frame (by rw[show sl none 0 0 3 1 (([]:List Int).map vI)=emp from gK _ _,iA])) rfl
theorem UZ {Z:Nat→Prop} {rk:Nat→Nat} (bad:Nat) (h:At B w0 w p M F) (hu:zG M.sv Z rk) (hrk:∀ v,Z v→rk v<M.value.xs.length) (hb:bad<M.cls.xs.length) (hz:∀ l∈M.sv.cl bad,Z (l/2)) (hlen:(M.sv.cl bad).length≤100000) :
  Calls Tryz.prog 71 #[.pointer (some ⟨p,0,none⟩),.int .i64 bad] w fun e w'=>e=.returned (.tuple #[])∧∃ M',At B w0 w' p M' F∧M'.sv=M.sv.ended bad:=by
 obtain⟨⟨rr,rd⟩,hi⟩:∃ x,M.cls.xs[bad]?=some x:=⟨M.cls.xs[bad],by simp[hb]⟩;obtain⟨bc,hbc⟩:=h.IY (by omega);obtain⟨o1,o2⟩:=h.wI hbc hi;have c3:=h.uz;obtain⟨nc,hnc⟩:∃ n,M.cls.xs.length=n:=⟨_,rfl⟩;rw[hbc,hnc] at c3;simp only[Option.map_some] at c3;obtain⟨q1,q2⟩:=Cq hi;rw[q1] at hz hlen;obtain⟨ra,hra⟩:∃ ra,(rr.a.map fun b=>(⟨b,0,none⟩:Addr))=ra:=⟨_,rfl⟩;obtain⟨n,hn⟩:∃ n,rr.xs.length=n:=⟨_,rfl⟩;rw[hra,hn] at o1;rw[hn] at hlen;have r0:(0:Int)≤(bad:Int):=by omega
 have r1:(bad:Int)<(nc:Int):=by omega
 have H:=zH h;have HU:=zH hu;have HRK:=zH hrk;have HZ:=zH hz;have HI:=zH hi;have HQ1:=zH q1;have Wj:=zH q2;have KJ:=zH hra;have HN:=zH hn;clear h hu hrk hz hi q1 q2 hra hn hbc hnc hb
 go_enter Tryz.func71,Tryz.ntmps71
 go_upto_region 1 with fail
 have h1:=H.out.box #[.slice ra n rr.c,.int .i64 rd] 123;obtain⟨b0,hb0⟩:∃ b0,w.heap.size=b0:=⟨_,rfl⟩;rw[hb0] at h1 ⊢;clear o1 o2 c3 hb0;revert h1;generalize w.alloc (Obj.cells #[Value.slice ra n rr.c,Value.int IntKind.i64 rd] 123)=w1;intro h1;have k1:=(h1.cu 1).1;simp only[List.getElem?_cons_succ,List.getElem?_cons_zero] at k1;have k2:=h1.uw;have h3:=h1.new1 (.int .i64 rd) 3;have k2b:=h3.uw;have k3:=h3.uy;have f1:=h3.fz;have f0:=h1.fz;have k3b:((w1.setCell ⟨p,22,none⟩ (.slice none 0 0)).alloc (Obj.cells #[Value.int IntKind.i64 rd] 3)).cell? ⟨p,23,none⟩=some (Value.slice (M.last.a.map fun b=>⟨b,0,none⟩) M.last.xs.length M.last.c):=(h1.qU.alloc (Obj.cells #[Value.int IntKind.i64 rd] 3)).uy;have f2:=(h1.qU.alloc (Obj.cells #[Value.int IntKind.i64 rd] 3)).fz;have h6:=(At.zB (a:=some _) (n:=1) (c:=1) (xs:=[rd]) (h1.qU.new1 (.int .i64 rd) 3) rfl (by simp)).drewN 1
 rw[show (w1.setCell ⟨p,22,none⟩ (.slice none 0 0)).heap.size=w1.heap.size by simp] at h6;have H6:=zH h6;obtain⟨u1,hu1⟩:∃ u,Value.slice (M.core.a.map fun b=>⟨b,0,none⟩) M.core.xs.length M.core.c=u:=⟨_,rfl⟩;obtain⟨u2,hu2⟩:∃ u,Value.slice (M.last.a.map fun b=>⟨b,0,none⟩) M.last.xs.length M.last.c=u:=⟨_,rfl⟩;rw[hu1] at k2b k2;rw[hu2] at k3 k3b;have h5:=(At.zB (a:=some _) (n:=1) (c:=1) (xs:=[rd]) h3.qU rfl (by simp)).drewN 1;have H5:=zH h5;clear h1 h3 h5 h6 hu1 hu2
 go_cut [18] (fun _ wx=>∃ b1,At B w0 wx p (M.qR ⟨some b1,1,[rd]⟩ M.units M.steps) (star (pt b0 123 [.slice ra n rr.c,.int .i64 rd]) F))
 case first =>
  go_region
  all_goals (go_wp2_with fail;go_meet;first | exact⟨_,H5.out⟩ | exact⟨_,H6.out⟩)
 case rest =>
  obtain⟨b1,h2⟩:=hcut;have k4:=(h2.cu 0).1;simp only[List.getElem?_cons_zero] at k4;have H2:=zH h2;clear h2 H5 H6 k1 k2 k2b k3 k3b f0 f1 f2
  go_wp2
  clear k4
  go_loopg [26] n (fun g s26 wr=>∃ (k m:Nat) (la u:Fl Int) (st:Fl (Fl Int)),s26=.int .i64 k∧la.xs.length=m∧m=k+1∧k≤n∧Hid (g=n-k) ∧
   Hid (At B w0 wr p (M.qR la u st) (star (pt b0 123 [.slice ra n rr.c,.int .i64 rd]) F))∧Hid (tX M.sv (MM.sv (M.dJ u st)))∧Hid (SM.bH (MM.sv (M.dJ u st)) ((rr.xs.drop k).map (·/2)) la.xs=SM.bH M.sv (rr.xs.map (·/2)) [rd]))
  case atStart=>exact⟨0,1,_,M.units,M.steps,rfl,rfl,rfl,Nat.zero_le _,rfl,H2.out,zH (tX.refl _),rfl⟩
  case round =>
   obtain⟨k,m,la,u,st,rfl,hfl,hmk,hkn,hg,H3,HT,HE⟩:=hrel;have HFL:=zH hfl;have Yf:=zH hmk
   by_cases hkl:k<n
   ·have e2:decide ((k:Int)<(n:Int))=true:=by simp;omega
    obtain⟨bl,hbl⟩:=(H3.out.wY (M:=M.qR la u st) HI.out).1 (by rw[HN.out];omega);obtain rfl:ra=some ⟨bl,0,none⟩:=by rw[←KJ.out,hbl];rfl
    obtain⟨l,hl⟩:∃ l,gn rr.xs k=l:=⟨_,rfl⟩;have hkx:k<rr.xs.length:=by rw[HN.out];exact hkl
    obtain⟨k3,_⟩:=H3.out.iE (M:=M.qR la u st) HI.out hbl (j:=k) (x:=l) (by rw[←hl];exact aM _ _ hkx);have z1:=HZ.out l (by rw[←hl];exact aU _ _ hkx);have hzv:=HU.out.z _ z1;have hsm:M.sv.value.length≤100000:=HU.out.small;have Ye:l<1000000:=by omega
    have hdr:rr.xs.drop k=l :: rr.xs.drop (k+1):=by rw[←hl,fD _ _ hkx];exact List.drop_eq_getElem_cons hkx
    have hE:=HE.out;rw[hdr,List.map_cons,SM.bH] at hE;have HV:=zH (fun V=>pQ l V Ye);have hrq:=HRK.out _ z1;obtain⟨q,hq⟩:∃ q,l/2=q:=⟨_,rfl⟩;rw[hq] at HV z1 hE hrq;obtain⟨d,hd⟩:∃ d,M.value.xs.length=d:=⟨_,rfl⟩;rw[hd] at hrq;have hun:SM.unit (MM.sv (M.dJ u st)) q=SM.bY d (MM.sv (M.dJ u st)) q:=by unfold SM.unit;rw[←hd];rfl
    rw[hun] at hE
    have huo:zG (MM.sv (M.qR la u st)) Z rk:=by
     have k1:=HU.out.AY HT.out;exact⟨k1.units,k1.reason,k1.small,k1.cls,k1.uI,k1.ids,k1.z,k1.r⟩
    have hwc:MM.sv (M.qR la u st)=SM.P6 (MM.sv (M.dJ u st)) [] la.xs:=rfl;have hug:=Fj [] la.xs d (MM.sv (M.dJ u st)) q;obtain⟨x,hx⟩:∃ x,(SM.bY d (MM.sv (M.dJ u st)) q).2=x:=⟨_,rfl⟩;rw[hx] at hE hug;have HC:=zH (fun V (hV:At B w0 V p (M.qR la u st) (star (pt b0 123 [.slice (some ⟨bl,0,none⟩) n rr.c,.int .i64 rd]) F))=>FD d V (M.qR la u st) _ q hV huo z1 (by omega));rw[hwc,hug] at HC;have HTO:=zH (vM d (HU.out.AY HT.out) z1 hrq).1.AY;have HE2:=zH hE;have HX:=zH hx;have c1:=H3.out.uy;have c2:wr.cell? ⟨p,23,none⟩=some (.slice (la.a.map fun b=>⟨b,0,none⟩) m la.c):=by rw[←hfl];exact c1
    have p0:(0:Int)≤(k:Int):=by omega
    have p1:(k:Int)<(n:Int):=by omega
    have hm6:m≤1000000:=by omega
    clear hfl hmk hE hl hbl hdr hkx hsm hwc hug hun huo hx c1 hzv
    go_upto_region 5 with fail
    refine dn 13 (fun V:World=>V.cell? ⟨p,23,none⟩=some (.slice (la.a.map fun b=>⟨b,0,none⟩) m la.c)) (by kernel_rfl) ?_;have bB:(fun V:World=>V.cell? ⟨p,23,none⟩=some (.slice (la.a.map fun b=>⟨b,0,none⟩) m la.c)) wr.drew:=c2;refine ay (i:=0) (v:=?v1) rfl (by kernel_rfl) (by kernel_rfl) (by kernel_rfl) (by kernel_rfl) (fun _ _ _ h=>h) rfl ?hy1 bB ?_
    case hy1 =>
     intro V aF
     try dsimp only at aF
     first | (obtain⟨aS,aT,cK⟩:=aF) | (obtain⟨aS,aT⟩:=aF) | skip
     go_simp
     try with_reducible rfl
    try simp only[Act.put,List.setIfInBounds_toArray,List.set_cons_zero,List.set_cons_succ]
    refine ay (i:=1) (v:=?v2) rfl (by kernel_rfl) (by kernel_rfl) (by kernel_rfl) (by kernel_rfl) (fun _ _ _ h=>h) rfl ?hy2 bB ?_
    case hy2 =>
     intro V aF
     try dsimp only at aF
     first | (obtain⟨aS,aT,cK⟩:=aF) | (obtain⟨aS,aT⟩:=aF) | skip
     go_simp
     try with_reducible rfl
    try simp only[Act.put,List.setIfInBounds_toArray,List.set_cons_zero,List.set_cons_succ]
    refine ay (i:=2) (v:=?v3) rfl (by kernel_rfl) (by kernel_rfl) (by kernel_rfl) (by kernel_rfl) (fun _ _ _ h=>h) rfl ?hy3 bB ?_
    case hy3 =>
     intro V aF
     try dsimp only at aF
     first | (obtain⟨aS,aT,cK⟩:=aF) | (obtain⟨aS,aT⟩:=aF) | skip
     go_simp
     try with_reducible rfl
    try simp only[Act.put,List.setIfInBounds_toArray,List.set_cons_zero,List.set_cons_succ]
    refine ay (i:=3) (v:=?v4) rfl (by kernel_rfl) (by kernel_rfl) (by kernel_rfl) (by kernel_rfl) (fun _ _ _ h=>h) rfl ?hy4 bB ?_
    case hy4 =>
     intro V aF
     try dsimp only at aF
     first | (obtain⟨aS,aT,cK⟩:=aF) | (obtain⟨aS,aT⟩:=aF) | skip
     go_simp
     try with_reducible rfl
    try simp only[Act.put,List.setIfInBounds_toArray,List.set_cons_zero,List.set_cons_succ]
    refine ay (i:=4) (v:=?v5) rfl (by kernel_rfl) (by kernel_rfl) (by kernel_rfl) (by kernel_rfl) (fun _ _ _ h=>h) rfl ?Qx bB ?_
    case Qx =>
     intro V aF
     try dsimp only at aF
     first | (obtain⟨aS,aT,cK⟩:=aF) | (obtain⟨aS,aT⟩:=aF) | skip
     go_simp
     try with_reducible rfl
    try simp only[Act.put,List.setIfInBounds_toArray,List.set_cons_zero,List.set_cons_succ]
    refine ay (i:=5) (v:=?v6) rfl (by kernel_rfl) (by kernel_rfl) (by kernel_rfl) (by kernel_rfl) (fun _ _ _ h=>h) rfl ?Ih bB ?_
    case Ih =>
     intro V aF
     try dsimp only at aF
     first | (obtain⟨aS,aT,cK⟩:=aF) | (obtain⟨aS,aT⟩:=aF) | skip
     go_simp
     try with_reducible rfl
    try simp only[Act.put,List.setIfInBounds_toArray,List.set_cons_zero,List.set_cons_succ]
    refine ay (i:=6) (v:=?v7) rfl (by kernel_rfl) (by kernel_rfl) (by kernel_rfl) (by kernel_rfl) (fun _ _ _ h=>h) rfl ?UL bB ?_
    case UL =>
     intro V aF
     try dsimp only at aF
     first | (obtain⟨aS,aT,cK⟩:=aF) | (obtain⟨aS,aT⟩:=aF) | skip
     go_simp
     try with_reducible rfl
    try simp only[Act.put,List.setIfInBounds_toArray,List.set_cons_zero,List.set_cons_succ]
    refine Tq (i:=7) (v:=.int .i64 q) rfl (by kernel_rfl) (by kernel_rfl) (by kernel_rfl) (by kernel_rfl) (fun _ _ _ h=>h) rfl 68 #[.int .u32 l] ?akK (fun V _=>(HV.out V).mono fun e w' h=>⟨h.1,h.2.symm⟩) bB ?_
    case akK =>
     intro V aF
     go_simp
     try with_reducible rfl
    try simp only[Act.put,List.setIfInBounds_toArray,List.set_cons_zero,List.set_cons_succ]
    refine bf (i:=8) (by kernel_rfl) rfl (fun K hK=>?_)
    go_simp
    refine (HC.out _ (H3.out.drewN 1)).mono ?_
    rintro e w4 ⟨rfl,u4,s4,h4,h5⟩
    have MO:At B w0 w4 p (M.qR la u4 s4) (star (pt b0 123 [.slice (some ⟨bl,0,none⟩) n rr.c,.int .i64 rd]) F):=h4
    have yw:(fun V:World=>V.cell? ⟨p,23,none⟩=some (.slice (la.a.map fun b=>⟨b,0,none⟩) m la.c)) w4:=by
     have h9:=MO.uy;rw[show (M.qR la u4 s4).last.xs.length=m from HFL.out] at h9;exact h9
    have ht4:=MO.Qn;rw[show (M.qR la u4 s4).last.xs.length=m from HFL.out] at ht4;have HT4:=zH ht4;have HL4:=zH MO.bA;have tY:=zH (show SM.P6 (MM.sv (M.dJ u4 s4)) [] la.xs=SM.P6 (SM.bY d (MM.sv (M.dJ u st)) q).1 [] la.xs from h5);have hs6:MM.sv (M.dJ u4 s4)=(SM.bY d (MM.sv (M.dJ u st)) q).1:=HTO.out.eq ⟨_,_,rfl⟩ (by have h9:=congrArg SM.units tY.out;exact h9) (by have h9:=congrArg SM.steps tY.out;exact h9);have zO:=zH hs6;clear h4 MO h5 ht4 HC hs6;refine hK _ _ yw ?_;clear hK K
    try simp only
    refine bf (i:=9) (by kernel_rfl) rfl (fun K hK=>?_)
    go_simp
    refine hK _ _ ((World.cell?_alloc_some w4 ⟨p,23,none⟩ (Obj.cells #[Value.int IntKind.i64 x] 3) (by rw[yw];rfl)).trans yw) ?_;clear hK K
    try simp only[Act.put,List.setIfInBounds_toArray,List.set_cons_zero,List.set_cons_succ]
    refine bf (i:=10) (by kernel_rfl) rfl (fun K hK=>?_);refine bN (by rfl) _ _ 27 3 (.int .i64 0) 8 (by rfl) Tryz.underlying27 Tryz.bW rfl (HT4.out.alloc _) (by rfl) w4.heap.size (.int .i64 x) (by rfl) (fJ w4 _ _) rfl (by omega) (by simp only[maxLen];omega) ?_;intro b' c' w5 hs _;obtain⟨⟨k5,k6⟩,k7⟩:=At.Uu (M:=M.qR la u4 s4) (x:=x) HL4.out HFL.out hs;have HS2:(fun V:World=>V.cell? ⟨p,23,none⟩=some (.slice (la.a.map fun b=>⟨b,0,none⟩) m la.c)) w5:=k5;have H7:=zH k7;clear hs k7;refine hK _ _ HS2 ?_;clear hK K
    try simp only[Act.put,List.setIfInBounds_toArray,List.set_cons_zero,List.set_cons_succ]
    refine bf (i:=11) (by kernel_rfl) rfl (fun K hK=>?_)
    go_simp
    refine hK _ _ (HS2) ?_;clear hK K
    try simp only[Act.put,List.setIfInBounds_toArray,List.set_cons_zero,List.set_cons_succ]
    refine bf (i:=12) (by kernel_rfl) rfl (fun K hK=>?_)
    go_simp
    refine hK _ _ (HS2) ?_;clear hK K
    try simp only[Act.put,List.setIfInBounds_toArray,List.set_cons_zero,List.set_cons_succ]
    refine iy (by kernel_rfl) rfl (by kernel_rfl) (fun K hK=>?_)
    go_simp
    refine hK _ _ ?_;clear hK K;clear bB yw HS2 c2 k3 k5 k6
    go_wp2
    go_roundg (n-(k+1))
    case measure=>have:=hg.out;omega
    case rel=>exact⟨k+1,m+1,⟨some b',c',la.xs++[x]⟩,u4,s4,by go_num,by simp[HFL.out],by have:=Yf.out;omega,by omega,rfl,H7.out,zH (by rw[zO.out];exact HT.out.trans HTO.out),zH (by rw[zO.out];exact HE2.out)⟩
   ·obtain rfl:k=n:=by omega
    have e2:decide ((k:Int)<(k:Int))=false:=by simp
    have hR:SM.bH M.sv (rr.xs.map (·/2)) [rd]=(MM.sv (M.dJ u st),la.xs):=by rw[←HE.out,List.drop_of_length_le (by rw[HN.out];exact Nat.le_refl _)];rfl
    have hE:SM.ended M.sv bad=MM.sv ((M.qR la u st).uq 2):=by
     unfold SM.ended;rw[HQ1.out,Wj.out,hR];rfl
    have HEE:=zH hE;have c9:=H3.out.qm;have f9:=H3.out.fz 24;have H9:=zH (H3.out.zk 2);clear hR hE HE hg hfl hmk
    go_wp2
    go_end0
    exact⟨rfl,_,H9.out.iL,HEE.out.symm⟩
end
end Go.Proofs.YthbbmdnfkkffjaaGreat

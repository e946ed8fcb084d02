/-
  Parts of the proof, joined by program: Un, End.
-/
import Derived.Test.YthbbmdnfkkffjaaGreatZ09
import Derived.Test.YthbbmdnfkkffjaaGreatZ14
import Derived.Deep.DeepCutAuto
import Derived.Deep.RegionWith
namespace Go.Proofs.YthbbmdnfkkffjaaGreat
open Go.RowKit Go.Proofs.PlaitSep Go.Proofs.PlaitPure Go.Proofs.PlaitSat
abbrev MM.u_un (M:MM) (u:Fl Int) (st:Fl (Fl Int)):MM:={ M with units:=u,steps:=st }
section
variable {p:Nat} {F:HP} {B:Nat} {w0:World}
set_option maxRecDepth 100000 in
set_option maxHeartbeats 4000000 in
theorem unit_any {Z:Nat→Prop} {rk:Nat→Nat} (d:Nat):∀ (w:World) (M:MM) (F:HP) (v:Nat),At B w0 w p M F→UnOk M.sv Z rk→Z v→rk v<d →
  Calls Tryz.prog 88 #[.pointer (some ⟨p,0,none⟩),.int .i64 v] w fun e w'=>e=.returned (.int .i64 (SM.unitGo d M.sv v).2) ∧
   ∃ u st,At B w0 w' p (M.u_un u st) F∧MM.sv (M.u_un u st)=(SM.unitGo d M.sv v).1:=by
 induction d with
 | zero=>intro _ _ _ _ _ _ _ h;omega
 | succ d ih =>
  intro w M F v h hu hz hd
  have IH:=Lib.hid ih
  clear ih
  have hvl:=hu.z v hz
  have hvl2:v<M.value.xs.length:=hvl
  have hul:M.units.xs.length=M.value.xs.length:=hu.units
  obtain⟨bu,hbu⟩:=h.b_units (by omega)
  obtain⟨x,hx⟩:∃ x,gi M.units.xs v=x:=⟨_,rfl⟩
  obtain⟨d1,_⟩:=h.r_units hbu (i:=v) (x:=x) (by rw[←hx];exact gi_map_eq _ _ (by omega))
  have c1:=h.c_units
  obtain⟨nu,hnu⟩:∃ n,M.units.xs.length=n:=⟨_,rfl⟩
  rw[hbu,hnu] at c1
  simp only[Option.map_some] at c1
  simp only[vI] at d1
  have i0:(0:Int)≤(v:Int):=by omega
  have i1:(v:Int)<(nu:Int):=by omega
  have H:=Lib.hid h
  have HU:=Lib.hid hu
  have HZ:=Lib.hid hz
  have HX:=Lib.hid hx
  have HNU:=Lib.hid hnu
  have HBU:=Lib.hid hbu
  have HVL:=Lib.hid hvl2
  clear h hu hz hx hvl hul hnu hbu hvl2
  by_cases hx1:x=-1
  ·subst hx1
   have e1:decide ((-1:Int)=-1)=true:=by simp
   obtain⟨r,g1,g2,g3,g4⟩:=HU.out.r v HZ.out
   have hrl:M.reason.xs.length=M.value.xs.length:=HU.out.reason
   obtain⟨br,hbr⟩:=H.out.b_reason (by have:=HVL.out;omega)
   obtain⟨d2,_⟩:=H.out.r_reason hbr (i:=v) (x:=(r:Int)) (by rw[←g1];exact gi_map_eq _ _ (by have:=HVL.out;show v<M.reason.xs.length;omega))
   have c2:=H.out.c_reason
   obtain⟨nr,hnr⟩:∃ n,M.reason.xs.length=n:=⟨_,rfl⟩
   rw[hbr,hnr] at c2
   have hcl:M.sv.cls.length=M.cls.xs.length:=by show (M.cls.xs.map _).length=_;rw[List.length_map]
   rw[hcl] at g2
   obtain⟨⟨rr,rd⟩,hi⟩:∃ x,M.cls.xs[r]?=some x:=⟨M.cls.xs[r],by simp[g2]⟩
   obtain⟨bc,hbc⟩:=H.out.b_cls (by omega)
   have o1:=H.out.o_cls hbc hi
   have c3:=H.out.c_cls
   obtain⟨nc,hnc⟩:∃ n,M.cls.xs.length=n:=⟨_,rfl⟩
   rw[hbc,hnc] at c3
   simp only[Option.map_some] at c2 c3
   simp only[vI] at d2
   obtain⟨q1,q2⟩:=cl_of hi
   have i2:(v:Int)<(nr:Int):=by have:=HVL.out;omega
   have r0:(0:Int)≤(r:Int):=by omega
   have r1:(r:Int)<(nc:Int):=by omega
   obtain⟨ra,hra⟩:∃ ra,(rr.a.map fun b=>(⟨b,0,none⟩:Addr))=ra:=⟨_,rfl⟩
   obtain⟨n,hn⟩:∃ n,rr.xs.length=n:=⟨_,rfl⟩
   rw[hra,hn] at o1
   have al:=fun (o:Obj) (a:Addr) (v:Value) (k:w.cell? a=some v)=>(World.cell?_alloc_some (w:=w) a o (by rw[k];rfl)).trans k
   have a2:=fun o=>al o _ _ c2
   have a3:=fun o=>al o _ _ c3
   have a4:=fun o=>al o _ _ d2
   have a5:=fun o=>al o _ _ o1.1
   have a6:=fun o=>al o _ _ o1.2
   obtain⟨o1,o2⟩:=o1
   clear al
   go_enter Tryz.func88,Tryz.ntmps88
   go_upto_region 2 with fail
   go_region
   have h1:At B w0 (w.alloc (Obj.cells #[Value.slice ra n rr.c,Value.int IntKind.i64 rd] 123)).drew p M (star (pt w.heap.size 123 [.slice ra n rr.c,.int .i64 rd]) F):=(H.out.box _ _).drewN 1
   obtain⟨b0,hb0⟩:∃ b0,w.heap.size=b0:=⟨_,rfl⟩
   rw[hb0] at h1 ⊢
   revert h1
   generalize (w.alloc (Obj.cells #[Value.slice ra n rr.c,Value.int IntKind.i64 rd] 123)).drew=w1
   intro h1
   have H1:=Lib.hid h1
   have HG:=Lib.hid g4
   have HQ1:=Lib.hid q1
   have HQ2:=Lib.hid q2
   have HI:=Lib.hid hi
   have HRA:=Lib.hid hra
   have HN:=Lib.hid hn
   have HG1:=Lib.hid g1
   have hnb:n≤100000:=by rw[←hn,←q1];exact g3
   have HBC:=Lib.hid hbc
   clear h1 g4 q1 q2 hi hra hn g1 g3 a2 a3 a4 a5 a6 o1 o2 c1 c2 c3 d1 d2 hrl hbr hcl hbc hnc g2 hnr hb0
   obtain⟨k0,k1⟩:w1.cell? ⟨b0,0,none⟩=some (.slice ra n rr.c)∧w1.cell? ⟨b0,1,none⟩=some (.int .i64 rd):=⟨(H1.out.box_cell 0).1,(H1.out.box_cell 1).1⟩
   go_upto_region 4 with fail
   have h2:=H1.out.new1 (.int .i64 rd) 3
   have H2:=Lib.hid h2
   have k2:(w1.alloc (Obj.cells #[Value.int IntKind.i64 rd] 3)).cell? ⟨b0,0,none⟩=some (.slice ra n rr.c):=(World.cell?_alloc_some _ _ _ (by rw[k0];rfl)).trans k0
   obtain⟨b1,hb1⟩:∃ b1,w1.heap.size=b1:=⟨_,rfl⟩
   rw[hb1] at H2 ⊢
   clear h2 hb1 k0 k1 H1
   revert k2 H2
   generalize w1.alloc (Obj.cells #[Value.int IntKind.i64 rd] 3)=w2
   intro k2 H2
   go_wp2
   clear k2
   go_loopg [6,37] n (fun g s6 s37 wr=>∃ (k m:Nat) (fr:Fl Int) (u:Fl Int) (st:Fl (Fl Int)),s6=.slice (fr.a.map fun b=>⟨b,0,none⟩) m fr.c∧s37=.int .i64 k∧fr.xs.length=m∧0<m∧m≤k+1∧k≤n∧Hid (g=n-k) ∧
    Hid (At B w0 wr p (M.u_un u st) (star (fr.hp 3 vI) (star (pt b0 123 [.slice ra n rr.c,.int .i64 rd]) F)))∧Hid (Unt M.sv (MM.sv (M.u_un u st)))∧Hid (SM.unitsF (SM.unitGo d) (MM.sv (M.u_un u st)) v (rr.xs.drop k) fr.xs=SM.unitsF (SM.unitGo d) M.sv v rr.xs [rd]))
   case atStart=>exact⟨0,1,⟨some b1,1,[rd]⟩,M.units,M.steps,rfl,rfl,rfl,Nat.one_pos,Nat.le_refl _,Nat.zero_le _,rfl,H2.out,Lib.hid (Unt.refl _),rfl⟩
   case round =>
    obtain⟨k,m,fr,u,st,rfl,rfl,hfl,hm0,hmk,hkn,hg,H3,HT,HE⟩:=hrel
    by_cases hkl:k<n
    ·have e2:decide ((k:Int)<(n:Int))=true:=by simp;omega
     obtain⟨bl,hbl⟩:=(H3.out.rb_cls (M:=M.u_un u st) HI.out).1 (by rw[HN.out];omega)
     obtain rfl:ra=some ⟨bl,0,none⟩:=by rw[←HRA.out,hbl];rfl
     obtain⟨l,hl⟩:∃ l,gn rr.xs k=l:=⟨_,rfl⟩
     have hkx:k<rr.xs.length:=by rw[HN.out];exact hkl
     obtain⟨k3,_⟩:=H3.out.e_cls (M:=M.u_un u st) HI.out hbl (j:=k) (x:=l) (by rw[←hl];exact gn_some _ _ hkx)
     obtain⟨l1,l2⟩:=HG.out l (by rw[HQ1.out,←hl];exact gn_mem _ _ hkx)
     have hsm:M.sv.value.length≤100000:=HU.out.small
     have hl6:l<1000000:=by omega
     have hdr:rr.xs.drop k=l :: rr.xs.drop (k+1):=by rw[←hl,gn_eq _ _ hkx];exact List.drop_eq_getElem_cons hkx
     have hE:=HE.out
     rw[hdr,SM.unitsF] at hE
     have HV:=Lib.hid (fun V=>v_any l V hl6)
     obtain⟨q,hq⟩:∃ q,l/2=q:=⟨_,rfl⟩
     rw[hq] at HV l1 l2 hE
     have HE2:=Lib.hid hE
     have HL2:=Lib.hid l2
     have HHL:=Lib.hid hl
     have HBL:=Lib.hid hbl
     have p0:(0:Int)≤(k:Int):=by omega
     have p1:(k:Int)<(n:Int):=by omega
     clear hE l2 hl hbl hdr hq hkx hsm
     go_wp2_with fail
     refine (HV.out _).mono ?_
     rintro e w3 ⟨rfl,rfl⟩
     by_cases hqv:q=v
     ·have e3:decide ((q:Int)=(v:Int))=true:=by simp;omega
      go_wp2
      go_roundg (n-(k+1))
      case measure=>have:=hg.out;omega
      case rel=>exact⟨k+1,m,fr,u,st,rfl,by go_num,hfl,hm0,by omega,by omega,rfl,H3.out,HT,Lib.hid (by have h9:=HE2.out;rw[if_pos hqv] at h9;exact h9)⟩
     ·have e3:decide ((q:Int)=(v:Int))=false:=by simp;omega
      obtain⟨z1,z2⟩:=HL2.out hqv
      have HC:=Lib.hid (IH.out _ _ _ q H3.out (HU.out.unt HT.out) z1 (by omega))
      have HTO:=Lib.hid (unit_to d (HU.out.unt HT.out) z1 (show rk q<d by omega)).1
      clear z1 z2
      go_wp2_with fail
      refine (HV.out _).mono ?_
      rintro e w3 ⟨rfl,rfl⟩
      go_wp2_with fail
      refine HC.out.mono ?_
      rintro e w3 ⟨rfl,u2,st2,h4,h5⟩
      obtain⟨x,hx⟩:∃ x,(SM.unitGo d (MM.sv (M.u_un u st)) q).2=x:=⟨_,rfl⟩
      rw[hx]
      have HS5:=Lib.hid (show MM.sv (M.u_un u2 st2)=(SM.unitGo d (MM.sv (M.u_un u st)) q).1 from h5)
      have HX5:=Lib.hid hx
      have h4b:At B w0 w3 p (M.u_un u2 st2) (star (fr.hp 3 vI) (star (pt b0 123 [.slice (some ⟨bl,0,none⟩) n rr.c,.int .i64 rd]) F)):=h4
      have HFR:=Lib.hid (h4b.frow hfl)
      have HLN:=Lib.hid h4b.lastN
      clear h4 h5 hx h4b HC k3
      go_wp2_with (at_builtin;refine wpList_append1 rfl _ _ 27 3 (.int .i64 0) 8 rfl Tryz.underlying27 Tryz.infoIntS rfl HFR.out rfl (.int .i64 x) rfl rfl (by omega) (by simp only[maxLen];omega) ?_;intro b' c' w5 hs;have h6:=At.fpush (M:=M.u_un u2 st2) (enc:=vI) (x:=x) HLN.out hfl hs;have H6:=Lib.hid h6;clear hs h6)
      go_roundg (n-(k+1))
      case measure=>have:=hg.out;omega
      case rel=>exact⟨k+1,m+1,⟨some b',c',fr.xs++[x]⟩,u2,st2,rfl,by go_num,by simp[hfl],by omega,by omega,by omega,rfl,H6.out,Lib.hid (by rw[HS5.out];exact HT.out.trans HTO.out.unt),Lib.hid (by have h9:=HE2.out;rw[if_neg hqv] at h9;rw[HS5.out,←HX5.out];exact h9)⟩
    ·obtain rfl:k=n:=by omega
     have e2:decide ((k:Int)<(k:Int))=false:=by simp
     have hR:SM.unitsF (SM.unitGo d) M.sv v rr.xs [rd]=(MM.sv (M.u_un u st),fr.xs):=by rw[←HE.out,List.drop_of_length_le (by rw[HN.out];exact Nat.le_refl _)];rfl
     have HRR:=Lib.hid hR
     clear hR HE hg
     have hus:u.xs.length=nu:=by
      have h9:=HT.out.units
      have h8:u.xs.length=M.units.xs.length:=h9
      rw[h8];exact HNU.out
     have HUS:=Lib.hid hus
     obtain⟨bv,hbv⟩:=H3.out.b_units (M:=M.u_un u st) (by show 0<u.xs.length;omega)
     have hbv2:u.a=some bv:=hbv
     have c1:=H3.out.c_units (M:=M.u_un u st)
     have c2:wr.cell? ⟨p,20,none⟩=some (.slice (some ⟨bv,0,none⟩) nu u.c):=by
      have h9:wr.cell? ⟨p,20,none⟩=some (.slice (u.a.map fun b=>⟨b,0,none⟩) u.xs.length u.c):=c1
      rw[hbv2,hus] at h9
      exact h9
     have hst1:=step_any (M:=M.u_un u st) fr (show At B w0 wr.drew p (M.u_un u st) _ from H3.out.drewN 1) (by omega) (by omega) (by
      have h9:=HT.out.pot
      have h8:=HU.out.pot
      have h7:(MM.sv (M.u_un u st)).steps.length=st.xs.length:=by show (st.xs.map _).length=_;rw[List.length_map]
      show st.xs.length≤5000000
      omega)
     have hfv:fr.v=.slice (fr.a.map fun b=>⟨b,0,none⟩) m fr.c:=by unfold Fl.v;rw[hfl]
     rw[hfv] at hst1
     have HST:=Lib.hid hst1
     have HBV:=Lib.hid hbv2
     clear hst1 hus hbv hbv2 c1 hfv
     go_upto_region 10 with fail
     refine wp_region_E 12 (fun V:World=>V.cell? ⟨p,20,none⟩=some (.slice (some ⟨bv,0,none⟩) nu u.c)) (by kernel_rfl) ?_
     have HS0:(fun V:World=>V.cell? ⟨p,20,none⟩=some (.slice (some ⟨bv,0,none⟩) nu u.c)) wr.drew:=c2
     refine E_takeL (i:=0) (v:=?v1) rfl (by kernel_rfl) (by kernel_rfl) (by kernel_rfl) (by kernel_rfl) (fun _ _ _ h=>h) rfl ?hy1 HS0 ?_
     case hy1 =>
      intro V hSV
      try dsimp only at hSV
      first | (obtain⟨hSV1,hSV2,hSV3⟩:=hSV) | (obtain⟨hSV1,hSV2⟩:=hSV) | skip
      go_simp
      try with_reducible rfl
     try simp only[Act.put,List.setIfInBounds_toArray,List.set_cons_zero,List.set_cons_succ]
     refine E_takeL (i:=1) (v:=?v2) rfl (by kernel_rfl) (by kernel_rfl) (by kernel_rfl) (by kernel_rfl) (fun _ _ _ h=>h) rfl ?hy2 HS0 ?_
     case hy2 =>
      intro V hSV
      try dsimp only at hSV
      first | (obtain⟨hSV1,hSV2,hSV3⟩:=hSV) | (obtain⟨hSV1,hSV2⟩:=hSV) | skip
      go_simp
      try with_reducible rfl
     try simp only[Act.put,List.setIfInBounds_toArray,List.set_cons_zero,List.set_cons_succ]
     refine E_takeL (i:=2) (v:=?v3) rfl (by kernel_rfl) (by kernel_rfl) (by kernel_rfl) (by kernel_rfl) (fun _ _ _ h=>h) rfl ?hy3 HS0 ?_
     case hy3 =>
      intro V hSV
      try dsimp only at hSV
      first | (obtain⟨hSV1,hSV2,hSV3⟩:=hSV) | (obtain⟨hSV1,hSV2⟩:=hSV) | skip
      go_simp
      try with_reducible rfl
     try simp only[Act.put,List.setIfInBounds_toArray,List.set_cons_zero,List.set_cons_succ]
     refine E_takeL (i:=3) (v:=?v4) rfl (by kernel_rfl) (by kernel_rfl) (by kernel_rfl) (by kernel_rfl) (fun _ _ _ h=>h) rfl ?hy4 HS0 ?_
     case hy4 =>
      intro V hSV
      try dsimp only at hSV
      first | (obtain⟨hSV1,hSV2,hSV3⟩:=hSV) | (obtain⟨hSV1,hSV2⟩:=hSV) | skip
      go_simp
      try with_reducible rfl
     try simp only[Act.put,List.setIfInBounds_toArray,List.set_cons_zero,List.set_cons_succ]
     refine E_takeL (i:=4) (v:=?v5) rfl (by kernel_rfl) (by kernel_rfl) (by kernel_rfl) (by kernel_rfl) (fun _ _ _ h=>h) rfl ?hy5 HS0 ?_
     case hy5 =>
      intro V hSV
      try dsimp only at hSV
      first | (obtain⟨hSV1,hSV2,hSV3⟩:=hSV) | (obtain⟨hSV1,hSV2⟩:=hSV) | skip
      go_simp
      try with_reducible rfl
     try simp only[Act.put,List.setIfInBounds_toArray,List.set_cons_zero,List.set_cons_succ]
     refine E_takeL (i:=5) (v:=?v6) rfl (by kernel_rfl) (by kernel_rfl) (by kernel_rfl) (by kernel_rfl) (fun _ _ _ h=>h) rfl ?hy6 HS0 ?_
     case hy6 =>
      intro V hSV
      try dsimp only at hSV
      first | (obtain⟨hSV1,hSV2,hSV3⟩:=hSV) | (obtain⟨hSV1,hSV2⟩:=hSV) | skip
      go_simp
      try with_reducible rfl
     try simp only[Act.put,List.setIfInBounds_toArray,List.set_cons_zero,List.set_cons_succ]
     refine E_takeL (i:=6) (v:=?v7) rfl (by kernel_rfl) (by kernel_rfl) (by kernel_rfl) (by kernel_rfl) (fun _ _ _ h=>h) rfl ?hy7 HS0 ?_
     case hy7 =>
      intro V hSV
      try dsimp only at hSV
      first | (obtain⟨hSV1,hSV2,hSV3⟩:=hSV) | (obtain⟨hSV1,hSV2⟩:=hSV) | skip
      go_simp
      try with_reducible rfl
     try simp only[Act.put,List.setIfInBounds_toArray,List.set_cons_zero,List.set_cons_succ]
     refine E_takeL (i:=7) (v:=?v8) rfl (by kernel_rfl) (by kernel_rfl) (by kernel_rfl) (by kernel_rfl) (fun _ _ _ h=>h) rfl ?hy8 HS0 ?_
     case hy8 =>
      intro V hSV
      try dsimp only at hSV
      first | (obtain⟨hSV1,hSV2,hSV3⟩:=hSV) | (obtain⟨hSV1,hSV2⟩:=hSV) | skip
      go_simp
      try with_reducible rfl
     try simp only[Act.put,List.setIfInBounds_toArray,List.set_cons_zero,List.set_cons_succ]
     refine E_takeL (i:=8) (v:=?v9) rfl (by kernel_rfl) (by kernel_rfl) (by kernel_rfl) (by kernel_rfl) (fun _ _ _ h=>h) rfl ?hy9 HS0 ?_
     case hy9 =>
      intro V hSV
      try dsimp only at hSV
      first | (obtain⟨hSV1,hSV2,hSV3⟩:=hSV) | (obtain⟨hSV1,hSV2⟩:=hSV) | skip
      go_simp
      try with_reducible rfl
     try simp only[Act.put,List.setIfInBounds_toArray,List.set_cons_zero,List.set_cons_succ]
     refine E_takeL (i:=9) (v:=?v10) rfl (by kernel_rfl) (by kernel_rfl) (by kernel_rfl) (by kernel_rfl) (fun _ _ _ h=>h) rfl ?hy10 HS0 ?_
     case hy10 =>
      intro V hSV
      try dsimp only at hSV
      first | (obtain⟨hSV1,hSV2,hSV3⟩:=hSV) | (obtain⟨hSV1,hSV2⟩:=hSV) | skip
      go_simp
      try with_reducible rfl
     try simp only[Act.put,List.setIfInBounds_toArray,List.set_cons_zero,List.set_cons_succ]
     refine E_onlyL (i:=10) (by kernel_rfl) rfl (fun K hK=>?_)
     go_simp
     refine HST.out.mono ?_
     rintro e w4 ⟨rfl,s4,h4,h5⟩
     have HS1:(fun V:World=>V.cell? ⟨p,20,none⟩=some (.slice (some ⟨bv,0,none⟩) nu u.c)) w4:=by
      have h9:w4.cell? ⟨p,20,none⟩=some (.slice (u.a.map fun b=>⟨b,0,none⟩) u.xs.length u.c):=h4.c_units
      rw[HBV.out,HUS.out] at h9
      exact h9
     obtain⟨x,hx⟩:∃ x,(SM.step (MM.sv (M.u_un u st)) fr.xs).2=x:=⟨_,rfl⟩
     rw[hx]
     have h4b:At B w0 w4 p (M.u_un u s4) (star (pt b0 123 [.slice ra k rr.c,.int .i64 rd]) F):=h4
     have hvu:v<u.xs.length:=by rw[HUS.out];omega
     have d3:=(h4b.r_units HBV.out (i:=v) (x:=gi u.xs v) (gi_map_eq _ _ hvu))
     obtain⟨d4,d5⟩:=d3
     have h6:=h4b.set_units HBV.out hvu x
     have H6:=Lib.hid h6
     have HS6:=Lib.hid h5
     have HX6:=Lib.hid hx
     clear h4 h4b h6 h5 hx HST
     refine hK _ _ HS1 ?_
     clear hK K
     try simp only[Act.put,List.setIfInBounds_toArray,List.set_cons_zero,List.set_cons_succ]
     refine E_takeL (i:=11) (v:=?v11) rfl (by kernel_rfl) (by kernel_rfl) (by kernel_rfl) (by kernel_rfl) (fun _ _ _ h=>h) rfl ?hy11 HS1 ?_
     case hy11 =>
      intro V hSV
      try dsimp only at hSV
      first | (obtain⟨hSV1,hSV2,hSV3⟩:=hSV) | (obtain⟨hSV1,hSV2⟩:=hSV) | skip
      go_simp
      try with_reducible rfl
     try simp only[Act.put,List.setIfInBounds_toArray,List.set_cons_zero,List.set_cons_succ]
     refine E_lastL (by kernel_rfl) rfl (by kernel_rfl) (fun K hK=>?_)
     go_simp
     refine hK _ _ ?_
     clear hK K
     clear HS0 HS1 c2 d4 d5
     have hE:SM.unitGo (d+1) M.sv v=(MM.sv (M.u_un ⟨u.a,u.c,u.xs.set v x⟩ s4),x):=by
      rw[SM.unitGo,if_pos (show gi M.sv.units v=-1 from HX.out)]
      dsimp only
      rw[HG1.out,Int.toNat_natCast,HQ1.out,HQ2.out,HRR.out]
      dsimp only
      rw[HX6.out,←HS6.out]
      rfl
     have HEE:=Lib.hid hE
     have H7:=Lib.hid (show At B w0 (w4.setCell ⟨bv,v,none⟩ (.int .i64 x)) p (M.u_un ⟨u.a,u.c,u.xs.set v x⟩ s4) (star (pt b0 123 [.slice ra k rr.c,.int .i64 rd]) F) from H6.out)
     clear hE H6 HS6 HX6 HRR
     revert H7
     generalize w4.setCell ⟨bv,v,none⟩ (.int .i64 x)=w5
     intro H7
     have hlu:(u.xs.set v x).length=nu:=by rw[List.length_set];exact HUS.out
     have c3:w5.cell? ⟨p,20,none⟩=some (.slice (some ⟨bv,0,none⟩) nu u.c):=by
      have h9:w5.cell? ⟨p,20,none⟩=some (.slice (u.a.map fun b=>⟨b,0,none⟩) (u.xs.set v x).length u.c):=H7.out.c_units
      rw[HBV.out,hlu] at h9
      exact h9
     obtain⟨d6,_⟩:=H7.out.r_units HBV.out (i:=v) (x:=x) (by show (u.xs.set v x)[v]?=some x;rw[List.getElem?_set_self hvu])
     simp only[vI] at d6
     clear hlu hvu
     go_wp2
     go_ret
     exact⟨by rw[HEE.out];rfl,_,_,H7.out.dropF,by rw[HEE.out]⟩
  ·have e1:decide (x=-1)=false:=by simpa using hx1
   go_enter Tryz.func88,Tryz.ntmps88
   go_wp2
   go_ret
   have hE:SM.unitGo (d+1) M.sv v=(M.sv,x):=by
    rw[SM.unitGo,if_neg (by rw[show gi M.sv.units v=x from HX.out];exact hx1),show gi M.sv.units v=x from HX.out]
   exact⟨by rw[hE];rfl,M.units,M.steps,H.out,by rw[hE]⟩
end
end Go.Proofs.YthbbmdnfkkffjaaGreat
namespace Go.Proofs.YthbbmdnfkkffjaaGreat
open Go.RowKit Go.Proofs.PlaitSep Go.Proofs.PlaitPure Go.Proofs.PlaitSat
abbrev MM.u_end (M:MM) (la:Fl Int) (u:Fl Int) (st:Fl (Fl Int)):MM:={ M with core:=⟨none,0,[]⟩,last:=la,units:=u,steps:=st }
section
variable {B:Nat} {w0 w:World} {p:Nat} {M:MM} {F:HP}
theorem At.nil_core (h:At B w0 w p M F):At B w0 (w.setCell ⟨p,22,none⟩ (.slice none 0 0)) p (M.u_core ⟨none,0,[]⟩) F :=
 At.new_core (a:=none) (n:=0) (c:=0) (xs:=[]) (h.frame (by rw[show sl none 0 0 3 1 (([]:List Int).map vI)=emp from sl_empty _ _,emp_star])) rfl
set_option maxRecDepth 100000 in
set_option maxHeartbeats 4000000 in
theorem ended_any {Z:Nat→Prop} {rk:Nat→Nat} (bad:Nat) (h:At B w0 w p M F) (hu:UnOk M.sv Z rk) (hrk:∀ v,Z v→rk v<M.value.xs.length) (hb:bad<M.cls.xs.length) (hz:∀ l∈M.sv.cl bad,Z (l/2)) (hlen:(M.sv.cl bad).length≤100000) :
  Calls Tryz.prog 71 #[.pointer (some ⟨p,0,none⟩),.int .i64 bad] w fun e w'=>e=.returned (.tuple #[])∧∃ M',At B w0 w' p M' F∧M'.sv=M.sv.ended bad:=by
 obtain⟨⟨rr,rd⟩,hi⟩:∃ x,M.cls.xs[bad]?=some x:=⟨M.cls.xs[bad],by simp[hb]⟩
 obtain⟨bc,hbc⟩:=h.b_cls (by omega)
 obtain⟨o1,o2⟩:=h.o_cls hbc hi
 have c3:=h.c_cls
 obtain⟨nc,hnc⟩:∃ n,M.cls.xs.length=n:=⟨_,rfl⟩
 rw[hbc,hnc] at c3
 simp only[Option.map_some] at c3
 obtain⟨q1,q2⟩:=cl_of hi
 rw[q1] at hz hlen
 obtain⟨ra,hra⟩:∃ ra,(rr.a.map fun b=>(⟨b,0,none⟩:Addr))=ra:=⟨_,rfl⟩
 obtain⟨n,hn⟩:∃ n,rr.xs.length=n:=⟨_,rfl⟩
 rw[hra,hn] at o1
 rw[hn] at hlen
 have r0:(0:Int)≤(bad:Int):=by omega
 have r1:(bad:Int)<(nc:Int):=by omega
 have H:=Lib.hid h
 have HU:=Lib.hid hu
 have HRK:=Lib.hid hrk
 have HZ:=Lib.hid hz
 have HI:=Lib.hid hi
 have HQ1:=Lib.hid q1
 have HQ2:=Lib.hid q2
 have HRA:=Lib.hid hra
 have HN:=Lib.hid hn
 clear h hu hrk hz hi q1 q2 hra hn hbc hnc hb
 go_enter Tryz.func71,Tryz.ntmps71
 go_upto_region 1 with fail
 have h1:=H.out.box #[.slice ra n rr.c,.int .i64 rd] 123
 obtain⟨b0,hb0⟩:∃ b0,w.heap.size=b0:=⟨_,rfl⟩
 rw[hb0] at h1 ⊢
 clear o1 o2 c3 hb0
 revert h1
 generalize w.alloc (Obj.cells #[Value.slice ra n rr.c,Value.int IntKind.i64 rd] 123)=w1
 intro h1
 have k1:=(h1.box_cell 1).1
 simp only[List.getElem?_cons_succ,List.getElem?_cons_zero] at k1
 have k2:=h1.c_core
 have h3:=h1.new1 (.int .i64 rd) 3
 have k2b:=h3.c_core
 have k3:=h3.c_last
 have f1:=h3.fz
 have f0:=h1.fz
 have k3b:((w1.setCell ⟨p,22,none⟩ (.slice none 0 0)).alloc (Obj.cells #[Value.int IntKind.i64 rd] 3)).cell? ⟨p,23,none⟩=some (Value.slice (M.last.a.map fun b=>⟨b,0,none⟩) M.last.xs.length M.last.c):=(h1.nil_core.alloc (Obj.cells #[Value.int IntKind.i64 rd] 3)).c_last
 have f2:=(h1.nil_core.alloc (Obj.cells #[Value.int IntKind.i64 rd] 3)).fz
 have h6:=(At.new_last (a:=some _) (n:=1) (c:=1) (xs:=[rd]) (h1.nil_core.new1 (.int .i64 rd) 3) rfl (by simp)).drewN 1
 rw[show (w1.setCell ⟨p,22,none⟩ (.slice none 0 0)).heap.size=w1.heap.size by simp] at h6
 have H6:=Lib.hid h6
 obtain⟨u1,hu1⟩:∃ u,Value.slice (M.core.a.map fun b=>⟨b,0,none⟩) M.core.xs.length M.core.c=u:=⟨_,rfl⟩
 obtain⟨u2,hu2⟩:∃ u,Value.slice (M.last.a.map fun b=>⟨b,0,none⟩) M.last.xs.length M.last.c=u:=⟨_,rfl⟩
 rw[hu1] at k2b k2
 rw[hu2] at k3 k3b
 have h5:=(At.new_last (a:=some _) (n:=1) (c:=1) (xs:=[rd]) h3.nil_core rfl (by simp)).drewN 1
 have H5:=Lib.hid h5
 clear h1 h3 h5 h6 hu1 hu2
 go_cut [18] (fun _ wx=>∃ b1,At B w0 wx p (M.u_end ⟨some b1,1,[rd]⟩ M.units M.steps) (star (pt b0 123 [.slice ra n rr.c,.int .i64 rd]) F))
 case first =>
  go_region
  all_goals (go_wp2_with fail;go_meet;first | exact⟨_,H5.out⟩ | exact⟨_,H6.out⟩)
 case rest =>
  obtain⟨b1,h2⟩:=hcut
  have k4:=(h2.box_cell 0).1
  simp only[List.getElem?_cons_zero] at k4
  have H2:=Lib.hid h2
  clear h2 H5 H6 k1 k2 k2b k3 k3b f0 f1 f2
  go_wp2
  clear k4
  go_loopg [26] n (fun g s26 wr=>∃ (k m:Nat) (la u:Fl Int) (st:Fl (Fl Int)),s26=.int .i64 k∧la.xs.length=m∧m=k+1∧k≤n∧Hid (g=n-k) ∧
   Hid (At B w0 wr p (M.u_end la u st) (star (pt b0 123 [.slice ra n rr.c,.int .i64 rd]) F))∧Hid (Unt M.sv (MM.sv (M.u_un u st)))∧Hid (SM.unitAll (MM.sv (M.u_un u st)) ((rr.xs.drop k).map (·/2)) la.xs=SM.unitAll M.sv (rr.xs.map (·/2)) [rd]))
  case atStart=>exact⟨0,1,_,M.units,M.steps,rfl,rfl,rfl,Nat.zero_le _,rfl,H2.out,Lib.hid (Unt.refl _),rfl⟩
  case round =>
   obtain⟨k,m,la,u,st,rfl,hfl,hmk,hkn,hg,H3,HT,HE⟩:=hrel
   have HFL:=Lib.hid hfl
   have HMK:=Lib.hid hmk
   by_cases hkl:k<n
   ·have e2:decide ((k:Int)<(n:Int))=true:=by simp;omega
    obtain⟨bl,hbl⟩:=(H3.out.rb_cls (M:=M.u_end la u st) HI.out).1 (by rw[HN.out];omega)
    obtain rfl:ra=some ⟨bl,0,none⟩:=by rw[←HRA.out,hbl];rfl
    obtain⟨l,hl⟩:∃ l,gn rr.xs k=l:=⟨_,rfl⟩
    have hkx:k<rr.xs.length:=by rw[HN.out];exact hkl
    obtain⟨k3,_⟩:=H3.out.e_cls (M:=M.u_end la u st) HI.out hbl (j:=k) (x:=l) (by rw[←hl];exact gn_some _ _ hkx)
    have z1:=HZ.out l (by rw[←hl];exact gn_mem _ _ hkx)
    have hzv:=HU.out.z _ z1
    have hsm:M.sv.value.length≤100000:=HU.out.small
    have hl6:l<1000000:=by omega
    have hdr:rr.xs.drop k=l :: rr.xs.drop (k+1):=by rw[←hl,gn_eq _ _ hkx];exact List.drop_eq_getElem_cons hkx
    have hE:=HE.out
    rw[hdr,List.map_cons,SM.unitAll] at hE
    have HV:=Lib.hid (fun V=>v_any l V hl6)
    have hrq:=HRK.out _ z1
    obtain⟨q,hq⟩:∃ q,l/2=q:=⟨_,rfl⟩
    rw[hq] at HV z1 hE hrq
    obtain⟨d,hd⟩:∃ d,M.value.xs.length=d:=⟨_,rfl⟩
    rw[hd] at hrq
    have hun:SM.unit (MM.sv (M.u_un u st)) q=SM.unitGo d (MM.sv (M.u_un u st)) q:=by unfold SM.unit;rw[←hd];rfl
    rw[hun] at hE
    have huo:UnOk (MM.sv (M.u_end la u st)) Z rk:=by
     have k1:=HU.out.unt HT.out
     exact⟨k1.units,k1.reason,k1.small,k1.cls,k1.pot,k1.ids,k1.z,k1.r⟩
    have hwc:MM.sv (M.u_end la u st)=SM.wCL (MM.sv (M.u_un u st)) [] la.xs:=rfl
    have hug:=unitGo_wCL [] la.xs d (MM.sv (M.u_un u st)) q
    obtain⟨x,hx⟩:∃ x,(SM.unitGo d (MM.sv (M.u_un u st)) q).2=x:=⟨_,rfl⟩
    rw[hx] at hE hug
    have HC:=Lib.hid (fun V (hV:At B w0 V p (M.u_end la u st) (star (pt b0 123 [.slice (some ⟨bl,0,none⟩) n rr.c,.int .i64 rd]) F))=>unit_any d V (M.u_end la u st) _ q hV huo z1 (by omega))
    rw[hwc,hug] at HC
    have HTO:=Lib.hid (unit_to d (HU.out.unt HT.out) z1 hrq).1.unt
    have HE2:=Lib.hid hE
    have HX:=Lib.hid hx
    have c1:=H3.out.c_last
    have c2:wr.cell? ⟨p,23,none⟩=some (.slice (la.a.map fun b=>⟨b,0,none⟩) m la.c):=by rw[←hfl];exact c1
    have p0:(0:Int)≤(k:Int):=by omega
    have p1:(k:Int)<(n:Int):=by omega
    have hm6:m≤1000000:=by omega
    clear hfl hmk hE hl hbl hdr hkx hsm hwc hug hun huo hx c1 hzv
    go_upto_region 5 with fail
    refine wp_region_E 13 (fun V:World=>V.cell? ⟨p,23,none⟩=some (.slice (la.a.map fun b=>⟨b,0,none⟩) m la.c)) (by kernel_rfl) ?_
    have HS0:(fun V:World=>V.cell? ⟨p,23,none⟩=some (.slice (la.a.map fun b=>⟨b,0,none⟩) m la.c)) wr.drew:=c2
    refine E_takeL (i:=0) (v:=?v1) rfl (by kernel_rfl) (by kernel_rfl) (by kernel_rfl) (by kernel_rfl) (fun _ _ _ h=>h) rfl ?hy1 HS0 ?_
    case hy1 =>
     intro V hSV
     try dsimp only at hSV
     first | (obtain⟨hSV1,hSV2,hSV3⟩:=hSV) | (obtain⟨hSV1,hSV2⟩:=hSV) | skip
     go_simp
     try with_reducible rfl
    try simp only[Act.put,List.setIfInBounds_toArray,List.set_cons_zero,List.set_cons_succ]
    refine E_takeL (i:=1) (v:=?v2) rfl (by kernel_rfl) (by kernel_rfl) (by kernel_rfl) (by kernel_rfl) (fun _ _ _ h=>h) rfl ?hy2 HS0 ?_
    case hy2 =>
     intro V hSV
     try dsimp only at hSV
     first | (obtain⟨hSV1,hSV2,hSV3⟩:=hSV) | (obtain⟨hSV1,hSV2⟩:=hSV) | skip
     go_simp
     try with_reducible rfl
    try simp only[Act.put,List.setIfInBounds_toArray,List.set_cons_zero,List.set_cons_succ]
    refine E_takeL (i:=2) (v:=?v3) rfl (by kernel_rfl) (by kernel_rfl) (by kernel_rfl) (by kernel_rfl) (fun _ _ _ h=>h) rfl ?hy3 HS0 ?_
    case hy3 =>
     intro V hSV
     try dsimp only at hSV
     first | (obtain⟨hSV1,hSV2,hSV3⟩:=hSV) | (obtain⟨hSV1,hSV2⟩:=hSV) | skip
     go_simp
     try with_reducible rfl
    try simp only[Act.put,List.setIfInBounds_toArray,List.set_cons_zero,List.set_cons_succ]
    refine E_takeL (i:=3) (v:=?v4) rfl (by kernel_rfl) (by kernel_rfl) (by kernel_rfl) (by kernel_rfl) (fun _ _ _ h=>h) rfl ?hy4 HS0 ?_
    case hy4 =>
     intro V hSV
     try dsimp only at hSV
     first | (obtain⟨hSV1,hSV2,hSV3⟩:=hSV) | (obtain⟨hSV1,hSV2⟩:=hSV) | skip
     go_simp
     try with_reducible rfl
    try simp only[Act.put,List.setIfInBounds_toArray,List.set_cons_zero,List.set_cons_succ]
    refine E_takeL (i:=4) (v:=?v5) rfl (by kernel_rfl) (by kernel_rfl) (by kernel_rfl) (by kernel_rfl) (fun _ _ _ h=>h) rfl ?hy5 HS0 ?_
    case hy5 =>
     intro V hSV
     try dsimp only at hSV
     first | (obtain⟨hSV1,hSV2,hSV3⟩:=hSV) | (obtain⟨hSV1,hSV2⟩:=hSV) | skip
     go_simp
     try with_reducible rfl
    try simp only[Act.put,List.setIfInBounds_toArray,List.set_cons_zero,List.set_cons_succ]
    refine E_takeL (i:=5) (v:=?v6) rfl (by kernel_rfl) (by kernel_rfl) (by kernel_rfl) (by kernel_rfl) (fun _ _ _ h=>h) rfl ?hy6 HS0 ?_
    case hy6 =>
     intro V hSV
     try dsimp only at hSV
     first | (obtain⟨hSV1,hSV2,hSV3⟩:=hSV) | (obtain⟨hSV1,hSV2⟩:=hSV) | skip
     go_simp
     try with_reducible rfl
    try simp only[Act.put,List.setIfInBounds_toArray,List.set_cons_zero,List.set_cons_succ]
    refine E_takeL (i:=6) (v:=?v7) rfl (by kernel_rfl) (by kernel_rfl) (by kernel_rfl) (by kernel_rfl) (fun _ _ _ h=>h) rfl ?hy7 HS0 ?_
    case hy7 =>
     intro V hSV
     try dsimp only at hSV
     first | (obtain⟨hSV1,hSV2,hSV3⟩:=hSV) | (obtain⟨hSV1,hSV2⟩:=hSV) | skip
     go_simp
     try with_reducible rfl
    try simp only[Act.put,List.setIfInBounds_toArray,List.set_cons_zero,List.set_cons_succ]
    refine E_callL (i:=7) (v:=.int .i64 q) rfl (by kernel_rfl) (by kernel_rfl) (by kernel_rfl) (by kernel_rfl) (fun _ _ _ h=>h) rfl 68 #[.int .u32 l] ?hyc8 (fun V _=>(HV.out V).mono fun e w' h=>⟨h.1,h.2.symm⟩) HS0 ?_
    case hyc8 =>
     intro V hSV
     go_simp
     try with_reducible rfl
    try simp only[Act.put,List.setIfInBounds_toArray,List.set_cons_zero,List.set_cons_succ]
    refine E_onlyL (i:=8) (by kernel_rfl) rfl (fun K hK=>?_)
    go_simp
    refine (HC.out _ (H3.out.drewN 1)).mono ?_
    rintro e w4 ⟨rfl,u4,s4,h4,h5⟩
    have h4b:At B w0 w4 p (M.u_end la u4 s4) (star (pt b0 123 [.slice (some ⟨bl,0,none⟩) n rr.c,.int .i64 rd]) F):=h4
    have HS1:(fun V:World=>V.cell? ⟨p,23,none⟩=some (.slice (la.a.map fun b=>⟨b,0,none⟩) m la.c)) w4:=by
     have h9:=h4b.c_last
     rw[show (M.u_end la u4 s4).last.xs.length=m from HFL.out] at h9
     exact h9
    have ht4:=h4b.t_last
    rw[show (M.u_end la u4 s4).last.xs.length=m from HFL.out] at ht4
    have HT4:=Lib.hid ht4
    have HL4:=Lib.hid h4b.lastN
    have HS5:=Lib.hid (show SM.wCL (MM.sv (M.u_un u4 s4)) [] la.xs=SM.wCL (SM.unitGo d (MM.sv (M.u_un u st)) q).1 [] la.xs from h5)
    have hs6:MM.sv (M.u_un u4 s4)=(SM.unitGo d (MM.sv (M.u_un u st)) q).1:=HTO.out.eq ⟨_,_,rfl⟩ (by have h9:=congrArg SM.units HS5.out;exact h9) (by have h9:=congrArg SM.steps HS5.out;exact h9)
    have HS6:=Lib.hid hs6
    clear h4 h4b h5 ht4 HC hs6
    refine hK _ _ HS1 ?_
    clear hK K
    try simp only
    refine E_onlyL (i:=9) (by kernel_rfl) rfl (fun K hK=>?_)
    go_simp
    refine hK _ _ ((World.cell?_alloc_some w4 ⟨p,23,none⟩ (Obj.cells #[Value.int IntKind.i64 x] 3) (by rw[HS1];rfl)).trans HS1) ?_
    clear hK K
    try simp only[Act.put,List.setIfInBounds_toArray,List.set_cons_zero,List.set_cons_succ]
    refine E_onlyL (i:=10) (by kernel_rfl) rfl (fun K hK=>?_)
    refine step_append1 (by rfl) _ _ 27 3 (.int .i64 0) 8 (by rfl) Tryz.underlying27 Tryz.infoIntS rfl (HT4.out.alloc _) (by rfl) w4.heap.size (.int .i64 x) (by rfl) (cell_new w4 _ _) rfl (by omega) (by simp only[maxLen];omega) ?_
    intro b' c' w5 hs _
    obtain⟨⟨k5,k6⟩,k7⟩:=At.push_last (M:=M.u_end la u4 s4) (x:=x) HL4.out HFL.out hs
    have HS2:(fun V:World=>V.cell? ⟨p,23,none⟩=some (.slice (la.a.map fun b=>⟨b,0,none⟩) m la.c)) w5:=k5
    have H7:=Lib.hid k7
    clear hs k7
    refine hK _ _ HS2 ?_
    clear hK K
    try simp only[Act.put,List.setIfInBounds_toArray,List.set_cons_zero,List.set_cons_succ]
    refine E_onlyL (i:=11) (by kernel_rfl) rfl (fun K hK=>?_)
    go_simp
    refine hK _ _ (HS2) ?_
    clear hK K
    try simp only[Act.put,List.setIfInBounds_toArray,List.set_cons_zero,List.set_cons_succ]
    refine E_onlyL (i:=12) (by kernel_rfl) rfl (fun K hK=>?_)
    go_simp
    refine hK _ _ (HS2) ?_
    clear hK K
    try simp only[Act.put,List.setIfInBounds_toArray,List.set_cons_zero,List.set_cons_succ]
    refine E_lastL (by kernel_rfl) rfl (by kernel_rfl) (fun K hK=>?_)
    go_simp
    refine hK _ _ ?_
    clear hK K
    clear HS0 HS1 HS2 c2 k3 k5 k6
    go_wp2
    go_roundg (n-(k+1))
    case measure=>have:=hg.out;omega
    case rel=>exact⟨k+1,m+1,⟨some b',c',la.xs++[x]⟩,u4,s4,by go_num,by simp[HFL.out],by have:=HMK.out;omega,by omega,rfl,H7.out,Lib.hid (by rw[HS6.out];exact HT.out.trans HTO.out),Lib.hid (by rw[HS6.out];exact HE2.out)⟩
   ·obtain rfl:k=n:=by omega
    have e2:decide ((k:Int)<(k:Int))=false:=by simp
    have hR:SM.unitAll M.sv (rr.xs.map (·/2)) [rd]=(MM.sv (M.u_un u st),la.xs):=by rw[←HE.out,List.drop_of_length_le (by rw[HN.out];exact Nat.le_refl _)];rfl
    have hE:SM.ended M.sv bad=MM.sv ((M.u_end la u st).u_told 2):=by
     unfold SM.ended
     rw[HQ1.out,HQ2.out,hR]
     rfl
    have HEE:=Lib.hid hE
    have c9:=H3.out.c_told
    have f9:=H3.out.fz 24
    have H9:=Lib.hid (H3.out.put_told 2)
    clear hR hE HE hg hfl hmk
    go_wp2
    go_end0
    exact⟨rfl,_,H9.out.dropF,HEE.out.symm⟩
end
end Go.Proofs.YthbbmdnfkkffjaaGreat

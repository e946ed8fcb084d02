/-
  Parts of the proof, joined by program: Dec.
-/
import Derived.Test.YthbbmdnfkkffjaaGreatZ25
namespace Go.Proofs.YthbbmdnfkkffjaaGreat
open Go.RowKit Go.Proofs.PlaitSep Go.Proofs.PlaitPure Go.Proofs.PlaitSat
structure DcOk (S:SM):Prop where
 lk:LkOk S
 hb:HB S
 el:S.ends.length≤900000
def pickOk:Nat→SM→Prop
 | 0,_=>False
 | f+1,S=>DcOk S∧DcOk S.take.1∧(S.take.2≠0→S.take.2<S.take.1.value.length∧(gi S.take.1.value S.take.2≠0→pickOk f S.take.1))
def decOk (assume:List Int):Nat→SM→Prop
 | 0,S=>pickOk (S.hl.length+1) S
 | f+1,S=>DcOk S∧packF (gi assume S.ends.length)/2<S.value.length∧(S.isL (packF (gi assume S.ends.length))=-1→∃ Z rk,RfOk S assume (packF (gi assume S.ends.length)) Z rk) ∧
  (S.isL (packF (gi assume S.ends.length))≠-1→S.isL (packF (gi assume S.ends.length))=1→decOk assume f S.open_)
theorem fill_set {zs:List Bool} {N k:Nat} {b:Bool} (hl:zs.length=N) (hk:k<N) (hb:gB zs k=b):(zs.take k++List.replicate (N-k) false).set k b=zs.take (k+1)++List.replicate (N-(k+1)) false:=by
 have h1:N-k=(N-(k+1))+1:=by omega
 have h2:zs[k]'(by omega)=b:=by rw[←hb];simp[gB,hl,hk]
 rw[List.set_append_right _ _ (by rw[List.length_take];omega),List.length_take,show k-min k zs.length=0 by omega,h1,List.replicate_succ,List.set_cons_zero,List.take_succ_eq_append_getElem (by omega),h2]
 simp
section
variable {B:Nat} {w0 w:World} {p:Nat} {M:MM} {F:HP}
set_option maxRecDepth 100000 in
set_option maxHeartbeats 4000000 in
theorem decide_any (A:Option Addr) (na ca:Nat) (assume:List Int) (h:At B w0 w p M F) (hst:Stays B w0 F A na assume) (hlen:assume.length≤900000) (hlits:∀ a∈assume,a.natAbs≤65536) (hvar:∀ a∈assume,packF a/2<M.sv.value.length) (hok:decOk assume (assume.length-M.sv.ends.length) M.sv) :
  Calls Tryz.prog 73 #[.pointer (some ⟨p,0,none⟩),.slice A na ca] w fun e w'=>e=.returned (.bool (M.sv.decide_ assume).2)∧∃ M',At B w0 w' p M' F∧M'.sv=(M.sv.decide_ assume).1:=by
 obtain⟨R,hR⟩:∃ R,M.sv.decide_ assume=R:=⟨_,rfl⟩
 rw[hR]
 have hna:assume.length=na:=(At.rd0 hst h).len
 have H:=Lib.hid h
 have HST:=Lib.hid hst
 have HNA:=Lib.hid hna
 have HLI:=Lib.hid hlits
 have HVA:=Lib.hid hvar
 have HOK:=Lib.hid hok
 have HR:=Lib.hid (show SM.decideGo assume (assume.length-M.sv.ends.length) M.sv=R from hR)
 rw[hna] at hlen
 clear h hst hna hlits hvar hok hR
 go_enter Tryz.func73,Tryz.ntmps73
 go_wp2
 go_loopg [] (na-M.sv.ends.length) (fun g wr=>∃ N:MM,Hid (At B w0 wr p N F)∧Hid (SM.decideGo assume g N.sv=R)∧Hid (decOk assume g N.sv)∧Hid (g=na-N.sv.ends.length∧N.sv.value.length=M.sv.value.length))
 case atStart=>exact⟨M,H,Lib.hid (by rw[←HNA.out];exact HR.out),Lib.hid (by rw[←HNA.out];exact HOK.out),⟨rfl,rfl⟩⟩
 case round =>
  obtain⟨N,H0,HG,HO,HE⟩:=hrel
  obtain⟨ne,hne⟩:∃ n,N.ends.xs.length=n:=⟨_,rfl⟩
  obtain⟨nt,hnt⟩:∃ n,N.trail.xs.length=n:=⟨_,rfl⟩
  have hat:=at_any H0.out
  rw[hne] at hat
  have HAT:=Lib.hid hat
  have HNE:=Lib.hid hne
  have HNT:=Lib.hid hnt
  have hge:=HE.out.1
  rw[show N.sv.ends.length=ne from hne] at hge
  clear hat hne hnt
  go_wp2_with fail
  refine HAT.out.mono ?_
  rintro e w1 ⟨rfl,rfl⟩
  by_cases hlt:ne<na
  ·have e1:decide ((ne:Int)<(na:Int))=true:=by simp;omega
   obtain⟨g,rfl⟩:∃ g,gk=g+1:=⟨na-ne-1,by omega⟩
   obtain⟨o1,o2,o3,o4⟩:=HO.out
   have hgo:=HG.out
   rw[SM.decideGo] at hgo
   rw[show N.sv.ends.length=ne from HNE.out] at o2 o3 o4 hgo
   obtain⟨a,ha⟩:∃ a,gi assume ne=a:=⟨_,rfl⟩
   have hkx:ne<assume.length:=by rw[HNA.out];exact hlt
   have ham:a∈assume:=by rw[←ha,gi_eq _ _ hkx];exact List.getElem_mem hkx
   have hal:=HLI.out a ham
   obtain⟨b,o,rfl,hc⟩:=(At.rd0 HST.out H0.out).cells (by omega)
   have k3:=hc ne hlt
   rw[ha] at o2 o3 o4 hgo k3
   have HPK:=Lib.hid (fun V=>pack_any a V (by omega) (by omega))
   obtain⟨l,hl⟩:∃ l,packF a=l:=⟨_,rfl⟩
   rw[hl] at HPK o2 o3 o4
   simp only[hl] at hgo
   have his:=sis_any l H0.out o2 o1.lk.small (o1.lk.val _)
   obtain⟨sg,hsg⟩:∃ s,N.sv.isL l=s:=⟨_,rfl⟩
   rw[hsg] at his o3 o4
   simp only[hsg] at hgo
   have HIS:=Lib.hid his
   have HSG:=Lib.hid hsg
   have HO1:=Lib.hid o1
   have HO2:=Lib.hid o2
   have HO3:=Lib.hid o3
   have HO4:=Lib.hid o4
   have HGO:=Lib.hid hgo
   have HL:=Lib.hid hl
   have HAM:=Lib.hid ham
   have p0:(0:Int)≤(ne:Int):=by omega
   have p1:(ne:Int)<(na:Int):=by omega
   clear o1 o2 o3 o4 hgo his hsg ha hkx ham hal hc hl HO HG
   go_wp2_with fail
   refine HAT.out.mono ?_
   rintro e w2 ⟨rfl,rfl⟩
   go_wp2_with fail
   refine (HPK.out _).mono ?_
   rintro e w2 ⟨rfl,rfl⟩
   go_wp2_with fail
   refine HIS.out.mono ?_
   rintro e w2 ⟨rfl,hd⟩
   have H1:=Lib.hid (H0.out.drawn hd)
   clear hd HIS HAT k3
   by_cases hs1:sg=-1
   ·subst hs1
    have e2:decide ((-1:Int)=-1)=true:=by simp
    obtain⟨Z,rk,hrf⟩:=HO3.out rfl
    have HRF:=Lib.hid (refused_any (some ⟨b,o,none⟩) na ca assume l H1.out HST.out hrf)
    have hgo:=HGO.out
    rw[if_pos rfl] at hgo
    have HGO2:=Lib.hid hgo
    clear hrf hgo
    go_wp2_with fail
    refine HRF.out.mono ?_
    rintro e w3 ⟨rfl,M3,h3,h4⟩
    have H3:=Lib.hid h3
    have H4:=Lib.hid h4
    clear h3 h4 HRF
    go_wp2
    go_ret
    exact⟨by rw[←HGO2.out];rfl,M3,H3.out,by rw[←HGO2.out];exact H4.out⟩
   ·have e2:decide (sg=-1)=false:=by simpa using hs1
    by_cases hs2:sg=1
    ·subst hs2
     have e3:decide ((1:Int)=1)=true:=by simp
     have hgo:=HGO.out
     rw[if_neg hs1,if_pos rfl] at hgo
     have HGO2:=Lib.hid hgo
     have hneb:=HO1.out.el
     rw[show N.sv.ends.length=ne from HNE.out] at hneb
     have hntb:=HO1.out.lk.trail
     rw[show N.sv.trail.length=nt from HNT.out] at hntb
     clear hgo
     go_upto_region 8 with fail
     have cE:=H1.out.c_ends
     have cT:=H1.out.c_trail
     have tE:=H1.out.t_ends
     rw[HNE.out] at cE tE
     rw[HNT.out] at cT
     have HTE:=Lib.hid tE
     have HLE:=Lib.hid H1.out.lastN
     clear tE
     refine wp_region_E 14 (fun V:World=>V.cell? ⟨p,13,none⟩=some (.slice (N.ends.a.map fun b=>⟨b,0,none⟩) ne N.ends.c)∧V.cell? ⟨p,12,none⟩=some (.slice (N.trail.a.map fun b=>⟨b,0,none⟩) nt N.trail.c)) (by kernel_rfl) ?_
     have HS0:(fun V:World=>V.cell? ⟨p,13,none⟩=some (.slice (N.ends.a.map fun b=>⟨b,0,none⟩) ne N.ends.c)∧V.cell? ⟨p,12,none⟩=some (.slice (N.trail.a.map fun b=>⟨b,0,none⟩) nt N.trail.c)) w2.drew:=⟨cE,cT⟩
     refine E_takeL (i:=0) (v:=?v0_1) rfl (by kernel_rfl) (by kernel_rfl) (by kernel_rfl) (by kernel_rfl) (fun _ _ _ h=>h) rfl ?hy0_1 HS0 ?_
     case hy0_1 =>
      intro V hSV
      try dsimp only at hSV
      first | (obtain⟨hSV1,hSV2,hSV3⟩:=hSV) | (obtain⟨hSV1,hSV2⟩:=hSV) | skip
      go_simp
      try with_reducible rfl
     try simp only[Act.put,List.setIfInBounds_toArray,List.set_cons_zero,List.set_cons_succ]
     refine E_takeL (i:=1) (v:=?v0_2) rfl (by kernel_rfl) (by kernel_rfl) (by kernel_rfl) (by kernel_rfl) (fun _ _ _ h=>h) rfl ?hy0_2 HS0 ?_
     case hy0_2 =>
      intro V hSV
      try dsimp only at hSV
      first | (obtain⟨hSV1,hSV2,hSV3⟩:=hSV) | (obtain⟨hSV1,hSV2⟩:=hSV) | skip
      go_simp
      try with_reducible rfl
     try simp only[Act.put,List.setIfInBounds_toArray,List.set_cons_zero,List.set_cons_succ]
     refine E_takeL (i:=2) (v:=?v0_3) rfl (by kernel_rfl) (by kernel_rfl) (by kernel_rfl) (by kernel_rfl) (fun _ _ _ h=>h) rfl ?hy0_3 HS0 ?_
     case hy0_3 =>
      intro V hSV
      try dsimp only at hSV
      first | (obtain⟨hSV1,hSV2,hSV3⟩:=hSV) | (obtain⟨hSV1,hSV2⟩:=hSV) | skip
      go_simp
      try with_reducible rfl
     try simp only[Act.put,List.setIfInBounds_toArray,List.set_cons_zero,List.set_cons_succ]
     refine E_takeL (i:=3) (v:=?v0_4) rfl (by kernel_rfl) (by kernel_rfl) (by kernel_rfl) (by kernel_rfl) (fun _ _ _ h=>h) rfl ?hy0_4 HS0 ?_
     case hy0_4 =>
      intro V hSV
      try dsimp only at hSV
      first | (obtain⟨hSV1,hSV2,hSV3⟩:=hSV) | (obtain⟨hSV1,hSV2⟩:=hSV) | skip
      go_simp
      try with_reducible rfl
     try simp only[Act.put,List.setIfInBounds_toArray,List.set_cons_zero,List.set_cons_succ]
     refine E_takeL (i:=4) (v:=?v0_5) rfl (by kernel_rfl) (by kernel_rfl) (by kernel_rfl) (by kernel_rfl) (fun _ _ _ h=>h) rfl ?hy0_5 HS0 ?_
     case hy0_5 =>
      intro V hSV
      try dsimp only at hSV
      first | (obtain⟨hSV1,hSV2,hSV3⟩:=hSV) | (obtain⟨hSV1,hSV2⟩:=hSV) | skip
      go_simp
      try with_reducible rfl
     try simp only[Act.put,List.setIfInBounds_toArray,List.set_cons_zero,List.set_cons_succ]
     refine E_takeL (i:=5) (v:=?v0_6) rfl (by kernel_rfl) (by kernel_rfl) (by kernel_rfl) (by kernel_rfl) (fun _ _ _ h=>h) rfl ?hy0_6 HS0 ?_
     case hy0_6 =>
      intro V hSV
      try dsimp only at hSV
      first | (obtain⟨hSV1,hSV2,hSV3⟩:=hSV) | (obtain⟨hSV1,hSV2⟩:=hSV) | skip
      go_simp
      try with_reducible rfl
     try simp only[Act.put,List.setIfInBounds_toArray,List.set_cons_zero,List.set_cons_succ]
     refine E_takeL (i:=6) (v:=?v0_7) rfl (by kernel_rfl) (by kernel_rfl) (by kernel_rfl) (by kernel_rfl) (fun _ _ _ h=>h) rfl ?hy0_7 HS0 ?_
     case hy0_7 =>
      intro V hSV
      try dsimp only at hSV
      first | (obtain⟨hSV1,hSV2,hSV3⟩:=hSV) | (obtain⟨hSV1,hSV2⟩:=hSV) | skip
      go_simp
      try with_reducible rfl
     try simp only[Act.put,List.setIfInBounds_toArray,List.set_cons_zero,List.set_cons_succ]
     refine E_takeL (i:=7) (v:=?v0_8) rfl (by kernel_rfl) (by kernel_rfl) (by kernel_rfl) (by kernel_rfl) (fun _ _ _ h=>h) rfl ?hy0_8 HS0 ?_
     case hy0_8 =>
      intro V hSV
      try dsimp only at hSV
      first | (obtain⟨hSV1,hSV2,hSV3⟩:=hSV) | (obtain⟨hSV1,hSV2⟩:=hSV) | skip
      go_simp
      try with_reducible rfl
     try simp only[Act.put,List.setIfInBounds_toArray,List.set_cons_zero,List.set_cons_succ]
     refine E_takeL (i:=8) (v:=?v0_9) rfl (by kernel_rfl) (by kernel_rfl) (by kernel_rfl) (by kernel_rfl) (fun _ _ _ h=>h) rfl ?hy0_9 HS0 ?_
     case hy0_9 =>
      intro V hSV
      try dsimp only at hSV
      first | (obtain⟨hSV1,hSV2,hSV3⟩:=hSV) | (obtain⟨hSV1,hSV2⟩:=hSV) | skip
      go_simp
      try with_reducible rfl
     try simp only[Act.put,List.setIfInBounds_toArray,List.set_cons_zero,List.set_cons_succ]
     refine E_takeL (i:=9) (v:=?v0_10) rfl (by kernel_rfl) (by kernel_rfl) (by kernel_rfl) (by kernel_rfl) (fun _ _ _ h=>h) rfl ?hy0_10 HS0 ?_
     case hy0_10 =>
      intro V hSV
      try dsimp only at hSV
      first | (obtain⟨hSV1,hSV2,hSV3⟩:=hSV) | (obtain⟨hSV1,hSV2⟩:=hSV) | skip
      go_simp
      try with_reducible rfl
     try simp only[Act.put,List.setIfInBounds_toArray,List.set_cons_zero,List.set_cons_succ]
     refine E_onlyL (i:=10) (by kernel_rfl) rfl (fun K hK=>?_)
     go_simp
     refine hK _ _ (⟨(World.cell?_alloc_some w2.drew _ (Obj.cells #[Value.int IntKind.i64 nt] 3) (by rw[HS0.1];rfl)).trans HS0.1,(World.cell?_alloc_some w2.drew _ (Obj.cells #[Value.int IntKind.i64 nt] 3) (by rw[HS0.2];rfl)).trans HS0.2⟩) ?_
     clear hK K
     try simp only[Act.put,List.setIfInBounds_toArray,List.set_cons_zero,List.set_cons_succ]
     refine E_onlyL (i:=11) (by kernel_rfl) rfl (fun K hK=>?_)
     refine step_append1 (by rfl) _ _ 27 3 (.int .i64 0) 8 (by rfl) Tryz.underlying27 Tryz.infoIntS rfl (HTE.out.drew.alloc _) (by rfl) w2.heap.size (.int .i64 nt) (by rfl) (cell_new w2.drew _ _) rfl (by omega) (by simp only[maxLen];omega) ?_
     intro bE cE' wE hs _
     obtain⟨⟨kE,fE⟩,kE2⟩:=At.push_ends (M:=N) (x:=nt) HLE.out HNE.out hs
     have cT2:wE.cell? ⟨p,12,none⟩=some (.slice (N.trail.a.map fun b=>⟨b,0,none⟩) nt N.trail.c):=by
      obtain⟨G,hG⟩:∃ G,star (sl (some bE) (ne+1) cE' 3 1 (N.ends.xs.map vN++[vN nt])) (star (stars ((parts p N).eraseIdx 7)) F)=star (pt p 92 (cellsM N)) G:=by
       rw[show stars ((parts p N).eraseIdx 7)=star (pt p 92 (cellsM N)) (stars (((parts p N).eraseIdx 7).eraseIdx 0)) from stars_focus rfl]
       exact⟨star (sl (some bE) (ne+1) cE' 3 1 (N.ends.xs.map vN++[vN nt])) (star (stars (((parts p N).eraseIdx 7).eraseIdx 0)) F),by ac_rfl⟩
      have h9:=(hs.conseq hG).pt_cell 12
      rw[←HNT.out]
      exact h9
     have HS2:(fun V:World=>V.cell? ⟨p,13,none⟩=some (.slice (N.ends.a.map fun b=>⟨b,0,none⟩) ne N.ends.c)∧V.cell? ⟨p,12,none⟩=some (.slice (N.trail.a.map fun b=>⟨b,0,none⟩) nt N.trail.c)) wE:=⟨kE,cT2⟩
     have HE9:=Lib.hid kE2
     clear hs kE2
     refine hK _ _ HS2 ?_
     clear hK K
     try simp only[Act.put,List.setIfInBounds_toArray,List.set_cons_zero,List.set_cons_succ]
     refine E_onlyL (i:=12) (by kernel_rfl) rfl (fun K hK=>?_)
     go_simp
     refine hK _ _ (HS2) ?_
     clear hK K
     try simp only[Act.put,List.setIfInBounds_toArray,List.set_cons_zero,List.set_cons_succ]
     refine E_onlyL (i:=13) (by kernel_rfl) rfl (fun K hK=>?_)
     go_simp
     refine hK _ _ (HS2) ?_
     clear hK K
     try simp only[Act.put,List.setIfInBounds_toArray,List.set_cons_zero,List.set_cons_succ]
     refine E_lastL (by kernel_rfl) rfl (by kernel_rfl) (fun K hK=>?_)
     go_simp
     refine hK _ _ ?_
     clear hK K
     clear HS0 HS2 cE cT kE fE cT2 HTE HLE
     have hso:MM.sv (N.u_ends ⟨some bE,cE',N.ends.xs++[nt]⟩)=(MM.sv N).open_:=by unfold SM.open_;rw[show (MM.sv N).trail.length=nt from HNT.out];rfl
     obtain⟨ME,hME⟩:∃ ME,N.u_ends ⟨some bE,cE',N.ends.xs++[nt]⟩=ME:=⟨_,rfl⟩
     have hvE:ME.value=N.value∧ME.level=N.level∧ME.reason=N.reason∧ME.trail=N.trail∧ME.phase=N.phase:=by rw[←hME];exact⟨rfl,rfl,rfl,rfl,rfl⟩
     have HVE:=Lib.hid hvE
     rw[hME] at hso HE9
     have HSO:=Lib.hid hso
     clear hso hME hvE
     revert HE9
     generalize wE.setCell ⟨p,13,none⟩ (.slice (some ⟨bE,0,none⟩) (ne+1) cE')=w5
     intro H5
     go_wp2
     go_roundg g
     case measure=>omega
     case rel=>exact⟨ME,H5,Lib.hid (by rw[HSO.out];exact HGO2.out),Lib.hid (by rw[HSO.out];exact HO4.out (by decide) (by first | rfl | trivial)),⟨by rw[HSO.out];show g=na-((MM.sv N).ends++[(MM.sv N).trail.length]).length;rw[List.length_append,show (MM.sv N).ends.length=ne from HNE.out];simp;omega,by rw[HSO.out];exact HE.out.2⟩⟩
    ·have e3:decide (sg=1)=false:=by simpa using hs2
     have hgo:=HGO.out
     rw[if_neg hs1,if_neg hs2] at hgo
     have HGO2:=Lib.hid hgo
     have hneb:=HO1.out.el
     rw[show N.sv.ends.length=ne from HNE.out] at hneb
     have hntb:=HO1.out.lk.trail
     rw[show N.sv.trail.length=nt from HNT.out] at hntb
     clear hgo
     go_upto_region 9 with fail
     have cE:=H1.out.c_ends
     have cT:=H1.out.c_trail
     have tE:=H1.out.t_ends
     rw[HNE.out] at cE tE
     rw[HNT.out] at cT
     have HTE:=Lib.hid tE
     have HLE:=Lib.hid H1.out.lastN
     clear tE
     refine wp_region_E 14 (fun V:World=>V.cell? ⟨p,13,none⟩=some (.slice (N.ends.a.map fun b=>⟨b,0,none⟩) ne N.ends.c)∧V.cell? ⟨p,12,none⟩=some (.slice (N.trail.a.map fun b=>⟨b,0,none⟩) nt N.trail.c)) (by kernel_rfl) ?_
     have HS0:(fun V:World=>V.cell? ⟨p,13,none⟩=some (.slice (N.ends.a.map fun b=>⟨b,0,none⟩) ne N.ends.c)∧V.cell? ⟨p,12,none⟩=some (.slice (N.trail.a.map fun b=>⟨b,0,none⟩) nt N.trail.c)) w2.drew:=⟨cE,cT⟩
     refine E_takeL (i:=0) (v:=?v1_1) rfl (by kernel_rfl) (by kernel_rfl) (by kernel_rfl) (by kernel_rfl) (fun _ _ _ h=>h) rfl ?hy1_1 HS0 ?_
     case hy1_1 =>
      intro V hSV
      try dsimp only at hSV
      first | (obtain⟨hSV1,hSV2,hSV3⟩:=hSV) | (obtain⟨hSV1,hSV2⟩:=hSV) | skip
      go_simp
      try with_reducible rfl
     try simp only[Act.put,List.setIfInBounds_toArray,List.set_cons_zero,List.set_cons_succ]
     refine E_takeL (i:=1) (v:=?v1_2) rfl (by kernel_rfl) (by kernel_rfl) (by kernel_rfl) (by kernel_rfl) (fun _ _ _ h=>h) rfl ?hy1_2 HS0 ?_
     case hy1_2 =>
      intro V hSV
      try dsimp only at hSV
      first | (obtain⟨hSV1,hSV2,hSV3⟩:=hSV) | (obtain⟨hSV1,hSV2⟩:=hSV) | skip
      go_simp
      try with_reducible rfl
     try simp only[Act.put,List.setIfInBounds_toArray,List.set_cons_zero,List.set_cons_succ]
     refine E_takeL (i:=2) (v:=?v1_3) rfl (by kernel_rfl) (by kernel_rfl) (by kernel_rfl) (by kernel_rfl) (fun _ _ _ h=>h) rfl ?hy1_3 HS0 ?_
     case hy1_3 =>
      intro V hSV
      try dsimp only at hSV
      first | (obtain⟨hSV1,hSV2,hSV3⟩:=hSV) | (obtain⟨hSV1,hSV2⟩:=hSV) | skip
      go_simp
      try with_reducible rfl
     try simp only[Act.put,List.setIfInBounds_toArray,List.set_cons_zero,List.set_cons_succ]
     refine E_takeL (i:=3) (v:=?v1_4) rfl (by kernel_rfl) (by kernel_rfl) (by kernel_rfl) (by kernel_rfl) (fun _ _ _ h=>h) rfl ?hy1_4 HS0 ?_
     case hy1_4 =>
      intro V hSV
      try dsimp only at hSV
      first | (obtain⟨hSV1,hSV2,hSV3⟩:=hSV) | (obtain⟨hSV1,hSV2⟩:=hSV) | skip
      go_simp
      try with_reducible rfl
     try simp only[Act.put,List.setIfInBounds_toArray,List.set_cons_zero,List.set_cons_succ]
     refine E_takeL (i:=4) (v:=?v1_5) rfl (by kernel_rfl) (by kernel_rfl) (by kernel_rfl) (by kernel_rfl) (fun _ _ _ h=>h) rfl ?hy1_5 HS0 ?_
     case hy1_5 =>
      intro V hSV
      try dsimp only at hSV
      first | (obtain⟨hSV1,hSV2,hSV3⟩:=hSV) | (obtain⟨hSV1,hSV2⟩:=hSV) | skip
      go_simp
      try with_reducible rfl
     try simp only[Act.put,List.setIfInBounds_toArray,List.set_cons_zero,List.set_cons_succ]
     refine E_takeL (i:=5) (v:=?v1_6) rfl (by kernel_rfl) (by kernel_rfl) (by kernel_rfl) (by kernel_rfl) (fun _ _ _ h=>h) rfl ?hy1_6 HS0 ?_
     case hy1_6 =>
      intro V hSV
      try dsimp only at hSV
      first | (obtain⟨hSV1,hSV2,hSV3⟩:=hSV) | (obtain⟨hSV1,hSV2⟩:=hSV) | skip
      go_simp
      try with_reducible rfl
     try simp only[Act.put,List.setIfInBounds_toArray,List.set_cons_zero,List.set_cons_succ]
     refine E_takeL (i:=6) (v:=?v1_7) rfl (by kernel_rfl) (by kernel_rfl) (by kernel_rfl) (by kernel_rfl) (fun _ _ _ h=>h) rfl ?hy1_7 HS0 ?_
     case hy1_7 =>
      intro V hSV
      try dsimp only at hSV
      first | (obtain⟨hSV1,hSV2,hSV3⟩:=hSV) | (obtain⟨hSV1,hSV2⟩:=hSV) | skip
      go_simp
      try with_reducible rfl
     try simp only[Act.put,List.setIfInBounds_toArray,List.set_cons_zero,List.set_cons_succ]
     refine E_takeL (i:=7) (v:=?v1_8) rfl (by kernel_rfl) (by kernel_rfl) (by kernel_rfl) (by kernel_rfl) (fun _ _ _ h=>h) rfl ?hy1_8 HS0 ?_
     case hy1_8 =>
      intro V hSV
      try dsimp only at hSV
      first | (obtain⟨hSV1,hSV2,hSV3⟩:=hSV) | (obtain⟨hSV1,hSV2⟩:=hSV) | skip
      go_simp
      try with_reducible rfl
     try simp only[Act.put,List.setIfInBounds_toArray,List.set_cons_zero,List.set_cons_succ]
     refine E_takeL (i:=8) (v:=?v1_9) rfl (by kernel_rfl) (by kernel_rfl) (by kernel_rfl) (by kernel_rfl) (fun _ _ _ h=>h) rfl ?hy1_9 HS0 ?_
     case hy1_9 =>
      intro V hSV
      try dsimp only at hSV
      first | (obtain⟨hSV1,hSV2,hSV3⟩:=hSV) | (obtain⟨hSV1,hSV2⟩:=hSV) | skip
      go_simp
      try with_reducible rfl
     try simp only[Act.put,List.setIfInBounds_toArray,List.set_cons_zero,List.set_cons_succ]
     refine E_takeL (i:=9) (v:=?v1_10) rfl (by kernel_rfl) (by kernel_rfl) (by kernel_rfl) (by kernel_rfl) (fun _ _ _ h=>h) rfl ?hy1_10 HS0 ?_
     case hy1_10 =>
      intro V hSV
      try dsimp only at hSV
      first | (obtain⟨hSV1,hSV2,hSV3⟩:=hSV) | (obtain⟨hSV1,hSV2⟩:=hSV) | skip
      go_simp
      try with_reducible rfl
     try simp only[Act.put,List.setIfInBounds_toArray,List.set_cons_zero,List.set_cons_succ]
     refine E_onlyL (i:=10) (by kernel_rfl) rfl (fun K hK=>?_)
     go_simp
     refine hK _ _ (⟨(World.cell?_alloc_some w2.drew _ (Obj.cells #[Value.int IntKind.i64 nt] 3) (by rw[HS0.1];rfl)).trans HS0.1,(World.cell?_alloc_some w2.drew _ (Obj.cells #[Value.int IntKind.i64 nt] 3) (by rw[HS0.2];rfl)).trans HS0.2⟩) ?_
     clear hK K
     try simp only[Act.put,List.setIfInBounds_toArray,List.set_cons_zero,List.set_cons_succ]
     refine E_onlyL (i:=11) (by kernel_rfl) rfl (fun K hK=>?_)
     refine step_append1 (by rfl) _ _ 27 3 (.int .i64 0) 8 (by rfl) Tryz.underlying27 Tryz.infoIntS rfl (HTE.out.drew.alloc _) (by rfl) w2.heap.size (.int .i64 nt) (by rfl) (cell_new w2.drew _ _) rfl (by omega) (by simp only[maxLen];omega) ?_
     intro bE cE' wE hs _
     obtain⟨⟨kE,fE⟩,kE2⟩:=At.push_ends (M:=N) (x:=nt) HLE.out HNE.out hs
     have cT2:wE.cell? ⟨p,12,none⟩=some (.slice (N.trail.a.map fun b=>⟨b,0,none⟩) nt N.trail.c):=by
      obtain⟨G,hG⟩:∃ G,star (sl (some bE) (ne+1) cE' 3 1 (N.ends.xs.map vN++[vN nt])) (star (stars ((parts p N).eraseIdx 7)) F)=star (pt p 92 (cellsM N)) G:=by
       rw[show stars ((parts p N).eraseIdx 7)=star (pt p 92 (cellsM N)) (stars (((parts p N).eraseIdx 7).eraseIdx 0)) from stars_focus rfl]
       exact⟨star (sl (some bE) (ne+1) cE' 3 1 (N.ends.xs.map vN++[vN nt])) (star (stars (((parts p N).eraseIdx 7).eraseIdx 0)) F),by ac_rfl⟩
      have h9:=(hs.conseq hG).pt_cell 12
      rw[←HNT.out]
      exact h9
     have HS2:(fun V:World=>V.cell? ⟨p,13,none⟩=some (.slice (N.ends.a.map fun b=>⟨b,0,none⟩) ne N.ends.c)∧V.cell? ⟨p,12,none⟩=some (.slice (N.trail.a.map fun b=>⟨b,0,none⟩) nt N.trail.c)) wE:=⟨kE,cT2⟩
     have HE9:=Lib.hid kE2
     clear hs kE2
     refine hK _ _ HS2 ?_
     clear hK K
     try simp only[Act.put,List.setIfInBounds_toArray,List.set_cons_zero,List.set_cons_succ]
     refine E_onlyL (i:=12) (by kernel_rfl) rfl (fun K hK=>?_)
     go_simp
     refine hK _ _ (HS2) ?_
     clear hK K
     try simp only[Act.put,List.setIfInBounds_toArray,List.set_cons_zero,List.set_cons_succ]
     refine E_onlyL (i:=13) (by kernel_rfl) rfl (fun K hK=>?_)
     go_simp
     refine hK _ _ (HS2) ?_
     clear hK K
     try simp only[Act.put,List.setIfInBounds_toArray,List.set_cons_zero,List.set_cons_succ]
     refine E_lastL (by kernel_rfl) rfl (by kernel_rfl) (fun K hK=>?_)
     go_simp
     refine hK _ _ ?_
     clear hK K
     clear HS0 HS2 cE cT kE fE cT2 HTE HLE
     have hso:MM.sv (N.u_ends ⟨some bE,cE',N.ends.xs++[nt]⟩)=(MM.sv N).open_:=by unfold SM.open_;rw[show (MM.sv N).trail.length=nt from HNT.out];rfl
     obtain⟨ME,hME⟩:∃ ME,N.u_ends ⟨some bE,cE',N.ends.xs++[nt]⟩=ME:=⟨_,rfl⟩
     have hvE:ME.value=N.value∧ME.level=N.level∧ME.reason=N.reason∧ME.trail=N.trail∧ME.phase=N.phase:=by rw[←hME];exact⟨rfl,rfl,rfl,rfl,rfl⟩
     have HVE:=Lib.hid hvE
     rw[hME] at hso HE9
     have HSO:=Lib.hid hso
     clear hso hME hvE
     revert HE9
     generalize wE.setCell ⟨p,13,none⟩ (.slice (some ⟨bE,0,none⟩) (ne+1) cE')=w5
     intro H5
     have HSET:=Lib.hid (set_any l (-1) H5 (by rw[HVE.out.1];exact HO2.out) (by rw[HVE.out.1,HVE.out.2.1];exact HO1.out.lk.sz.level) (by rw[HVE.out.1,HVE.out.2.2.1];exact HO1.out.lk.sz.reason) (by rw[HVE.out.1];exact HO1.out.lk.small) (by rw[HVE.out.2.2.2.1,HNT.out];omega))
     go_wp2_with fail
     refine HSET.out.mono ?_
     rintro e w6 ⟨rfl,z1,z2,z3,z4,h6,h7⟩
     have H6:=Lib.hid h6
     have HS6:=Lib.hid h7
     clear h6 h7 HSET
     go_wp2
     go_ret
     exact⟨by rw[←HGO2.out];rfl,_,H6.out,by rw[←HGO2.out,HS6.out,HSO.out]⟩
  ·have e1:decide ((ne:Int)<(na:Int))=false:=by simp;omega
   obtain rfl:gk=0:=by omega
   have hpk:pickOk (N.sv.hl.length+1) N.sv:=HO.out
   have hgo:=HG.out
   rw[SM.decideGo] at hgo
   obtain⟨P,hP⟩:∃ P,SM.pickGo (N.sv.hl.length+1) N.sv=P:=⟨_,rfl⟩
   rw[hP] at hgo
   have HGO:=Lib.hid hgo
   have HPP:=Lib.hid hP
   have HPK:=Lib.hid hpk
   have HTK:=Lib.hid (take_any H0.out hpk.1.hb)
   obtain⟨nh,hnh⟩:∃ n,N.sv.hl.length=n:=⟨_,rfl⟩
   rw[hnh] at HPP HPK
   have HVL:=Lib.hid HE.out.2
   clear hpk hgo hP hnh HG HO HAT HE hge
   obtain⟨v0,hv0⟩:∃ v,N.sv.take.2=v:=⟨_,rfl⟩
   rw[hv0] at HTK
   go_wp2_with fail
   refine HTK.out.mono ?_
   rintro e w1 ⟨rfl,x1,x2,x3,h1,h2⟩
   obtain⟨K0,hK0⟩:∃ K,N.u_heap x1 x2 x3=K:=⟨_,rfl⟩
   rw[hK0] at h1 h2
   have H1:=Lib.hid h1
   have HS1:=Lib.hid h2
   have HV0:=Lib.hid hv0
   have hvk:K0.sv.value.length=M.sv.value.length:=by rw[←hK0];exact HVL.out
   have HVK:=Lib.hid hvk
   clear h1 h2 hK0 HTK hv0 hvk H0 HNE HNT
   go_wp2
   go_loopg [6] nh (fun g s6 wr=>∃ (L:MM) (S0:SM) (v:Nat),s6=.int .i64 v∧Hid (At B w0 wr p L F)∧Hid (L.sv=S0.take.1∧S0.take.2=v∧SM.pickGo (g+1) S0=P∧pickOk (g+1) S0∧L.sv.value.length=M.sv.value.length))
   case atStart=>exact⟨K0,N.sv,v0,rfl,H1.out,⟨HS1.out,HV0.out,HPP.out,HPK.out,HVK.out⟩⟩
   case round =>
    clear H1 HS1 HV0 HPP HPK HVK HVL
    obtain⟨L,S0,v,rfl,H2,HK⟩:=hrel
    obtain⟨hk1,hk2,hk3,hk4,hk5⟩:=HK.out
    rw[SM.pickGo,hk2] at hk3
    rw[pickOk,hk2] at hk4
    obtain⟨d1,d2,d3⟩:=hk4
    rw[←hk1] at hk3 d2 d3
    have HK1:=Lib.hid hk1
    have HK3:=Lib.hid hk3
    have HK5:=Lib.hid hk5
    have HD2:=Lib.hid d2
    have HD3:=Lib.hid d3
    clear hk1 hk2 hk3 hk5 d1 d2 d3 HK
    by_cases hv:v=0
    ·subst hv
     have e2:decide ((0:Int)<((0:Nat):Int))=false:=by simp
     have hk3:=HK3.out
     rw[if_pos (by first | rfl | trivial)] at hk3
     have hgo:=HGO.out
     rw[←hk3] at hgo
     have hRR:R=(L.sv.sated assume,false):=by
      rw[←hgo,if_neg (show ¬ (false=true) by decide)]
     have HRR:=Lib.hid hRR
     obtain⟨N,hN⟩:∃ N,L.value.xs.length=N:=⟨_,rfl⟩
     have hsm:N≤100000:=by rw[←hN];exact HD2.out.lk.small
     have HN:=Lib.hid hN
     have c24:=H2.out.c_told
     have f24:=H2.out.fz 24
     clear hk3 hgo hRR hN HGO HK3 HD3
     go_upto_region 23 with fail
     have H3:=Lib.hid (H2.out.put_told 1)
     clear c24 f24 H2
     revert H3
     generalize wr.setCell ⟨p,24,none⟩ (.int .i64 1)=w2
     intro H3
     have c7:=H3.out.c_value
     rw[show (L.u_told 1).value.xs.length=N from HN.out] at c7
     have HSTT:=Lib.hid H3.out.st
     have HLN:=Lib.hid H3.out.lastN
     go_upto_region 24 with (at_make;refine wpList_make rfl _ _ 84 4 (.bool false) 1 rfl Tryz.underlying84 Tryz.infoBool rfl N _ rfl rfl rfl (by omega) (by unfold maxLen;omega) (by omega) HSTT.out ?_;intro mb w3 h3;have h4:=At.unrowF (M:=L.u_told 1) h3 HLN.out;have H4:=Lib.hid h4;have c21:=h4.c_model;have f21:=h4.fz 21;clear h3 h4)
     have h5:=At.new_model (M:=L.u_told 1) (a:=some mb) (n:=N) (c:=N) (xs:=List.replicate N false) (by rw[List.map_replicate];exact H4.out) (by simp)
     have H5:=Lib.hid h5
     clear h5 c21 f21 c7 H4 H3 HSTT HLN
     revert H5
     simp only[Option.map_some]
     generalize w3.setCell ⟨p,21,none⟩ (.slice (some ⟨mb,0,none⟩) N N)=w4
     intro H5
     obtain⟨T,hT⟩:∃ T,L.u_told 1=T:=⟨_,rfl⟩
     rw[hT] at H5
     have hvt:T.value.xs.length=N:=by rw[←hT];exact HN.out
     have hot:T.occurs.xs.length=N:=by rw[←hT,←HN.out];exact HD2.out.lk.sz.occurs
     obtain⟨zs,hzs⟩:∃ zs,List.zipWith (fun x o=>decide ((0:Int)<x)&&o) T.value.xs T.occurs.xs=zs:=⟨_,rfl⟩
     have hzl:zs.length=N:=by rw[←hzs,List.length_zipWith,hvt,hot];simp
     have hsat:L.sv.sated assume={ MM.sv T with model:=assume.foldl (fun m a=>m.set (packF a/2) (decide (0<a))) zs }:=by
      rw[←hzs,←hT]
      rfl
     have HSAT:=Lib.hid hsat
     have HVT:=Lib.hid hvt
     have HOT:=Lib.hid hot
     have HZS:=Lib.hid hzs
     have HZL:=Lib.hid hzl
     have HMV:=Lib.hid (show M.sv.value.length=N by rw[←HK5.out];exact HN.out)
     clear hsat hvt hot hzs hzl hT HN HD2 HK5
     have c7:=H5.c_value
     obtain⟨va,hva⟩:∃ va,(T.value.a.map fun b=>(⟨b,0,none⟩:Addr))=va:=⟨_,rfl⟩
     rw[show (T.u_model ⟨some mb,N,List.replicate N false⟩).value.xs.length=N from HVT.out,show ((T.u_model ⟨some mb,N,List.replicate N false⟩).value.a.map fun b=>(⟨b,0,none⟩:Addr))=va from hva] at c7
     have HVA2:=Lib.hid hva
     have H6:=Lib.hid H5
     clear hva H5
     go_wp2
     clear c7
     go_loopg [130] N (fun g s130 wr=>∃ (k:Nat) (xs:List Bool),s130=.int .i64 k∧k≤N∧Hid (g=N-k)∧Hid (xs=zs.take k++List.replicate (N-k) false)∧Hid (At B w0 wr p (T.u_model ⟨some mb,N,xs⟩) F))
     case atStart=>exact⟨0,List.replicate N false,rfl,Nat.zero_le _,rfl,Lib.hid (by simp),H6.out⟩
     case round =>
      clear H6
      obtain⟨k,xs,rfl,hkn,hg,HX,H6⟩:=hrel
      have hxl:xs.length=N:=by rw[HX.out,List.length_append,List.length_take,HZL.out,List.length_replicate];omega
      have HXL:=Lib.hid hxl
      clear hxl
      by_cases hkl:k<N
      ·have e3:decide ((k:Int)<(N:Int))=true:=by simp;omega
       obtain⟨bv,hbv⟩:=H6.out.b_value (by show 0<T.value.xs.length;rw[HVT.out];omega)
       have hbv2:T.value.a=some bv:=hbv
       obtain rfl:va=some ⟨bv,0,none⟩:=by rw[←HVA2.out,hbv2];rfl
       obtain⟨x,hx⟩:∃ x,gi T.value.xs k=x:=⟨_,rfl⟩
       obtain⟨k1,_⟩:=H6.out.r_value hbv (i:=k) (x:=x) (by rw[←hx];exact gi_map_eq _ _ (by rw[HVT.out];exact hkl))
       simp only[v8] at k1
       obtain⟨bo,hbo⟩:=H6.out.b_occurs (by show 0<T.occurs.xs.length;rw[HOT.out];omega)
       obtain⟨oc,hoc⟩:∃ x,gB T.occurs.xs k=x:=⟨_,rfl⟩
       obtain⟨k2,_⟩:=H6.out.r_occurs hbo (i:=k) (x:=oc) (by rw[←hoc];exact gB_some _ _ (by rw[HOT.out];exact hkl))
       simp only[vB] at k2
       have c11:=H6.out.c_occurs
       rw[hbo,show (T.u_model ⟨some mb,N,xs⟩).occurs.xs.length=N from HOT.out] at c11
       simp only[Option.map_some] at c11
       have c21:=H6.out.c_model
       rw[show (T.u_model ⟨some mb,N,xs⟩).model.xs.length=N from HXL.out] at c21
       have c21b:wr.cell? ⟨p,21,none⟩=some (.slice (some ⟨mb,0,none⟩) N N):=c21
       obtain⟨k3,f3⟩:=H6.out.r_model (b:=mb) rfl (i:=k) (x:=gB xs k) (gB_some _ _ (by rw[HXL.out];exact hkl))
       simp only[vB] at k3
       obtain⟨pb,hpb⟩:∃ b,decide ((0:Int)<x)=b:=⟨_,rfl⟩
       have hzk:gB zs k=(pb&&oc):=by
        rw[←HZS.out,←hpb,←hx,←hoc]
        have h1:k<(List.zipWith (fun x o=>decide ((0:Int)<x)&&o) T.value.xs T.occurs.xs).length:=by rw[HZS.out,HZL.out];exact hkl
        simp[gB,gi,List.getD_eq_getElem?_getD,List.getElem?_zipWith,List.getElem?_eq_getElem (show k<T.value.xs.length by rw[HVT.out];exact hkl),List.getElem?_eq_getElem (show k<T.occurs.xs.length by rw[HOT.out];exact hkl)]
       have HFS:=Lib.hid (fill_set (N:=N) HZL.out hkl hzk)
       have hset:=fun y=>(H6.out.set_model (b:=mb) (i:=k) rfl (by show k<xs.length;rw[HXL.out];exact hkl) y).drewN 1
       have HSET:=Lib.hid hset
       have p0:(0:Int)≤(k:Int):=by omega
       have p1:(k:Int)<(N:Int):=by omega
       clear c21 hset hx hoc hbv hbv2 hbo hzk
       go_upto_region 27 with fail
       cases pb with
       | true =>
        go_region
        go_wp2
        go_roundg (N-(k+1))
        case measure=>have:=hg.out;omega
        case rel=>exact⟨k+1,xs.set k oc,by go_num,by omega,rfl,Lib.hid (by have h9:=HFS.out;rw[Bool.true_and] at h9;rw[HX.out];exact h9),HSET.out oc⟩
       | false =>
        go_region
        go_wp2
        go_roundg (N-(k+1))
        case measure=>have:=hg.out;omega
        case rel=>exact⟨k+1,xs.set k false,by go_num,by omega,rfl,Lib.hid (by have h9:=HFS.out;rw[Bool.false_and] at h9;rw[HX.out];exact h9),HSET.out false⟩
      ·obtain rfl:k=N:=by omega
       have e3:decide ((k:Int)<(k:Int))=false:=by simp
       have hxz:xs=zs:=by rw[HX.out,List.take_of_length_le (by rw[HZL.out];exact Nat.le_refl _)];simp
       subst hxz
       clear hg HX
       go_wp2
       go_loopg [155] na (fun g s155 wr=>∃ (j:Nat) (ys:List Bool),s155=.int .i64 j∧j≤na∧Hid (g=na-j)∧Hid (ys.length=k)∧Hid (ys=(assume.take j).foldl (fun m a=>m.set (packF a/2) (decide (0<a))) xs)∧Hid (At B w0 wr p (T.u_model ⟨some mb,k,ys⟩) F))
       case atStart=>exact⟨0,xs,rfl,Nat.zero_le _,rfl,HXL.out,Lib.hid (by simp),H6.out⟩
       case round =>
        clear H6
        obtain⟨j,ys,rfl,hjn,hg,HYL,HY,H6⟩:=hrel
        by_cases hjl:j<na
        ·have e4:decide ((j:Int)<(na:Int))=true:=by simp;omega
         obtain⟨b,o,rfl,hc⟩:=(At.rd0 HST.out H6.out).cells (by omega)
         obtain⟨a,ha⟩:∃ a,gi assume j=a:=⟨_,rfl⟩
         have k3:=hc j hjl
         rw[ha] at k3
         have hkx:j<assume.length:=by rw[HNA.out];exact hjl
         have ham:a∈assume:=by rw[←ha,gi_eq _ _ hkx];exact List.getElem_mem hkx
         have hal:=HLI.out a ham
         have hav:=HVA.out a ham
         rw[HMV.out] at hav
         have HPK:=Lib.hid (fun V=>pack_any a V (by omega) (by omega))
         have HVV:=Lib.hid (fun V=>v_any (packF a) V (by omega))
         obtain⟨q,hq⟩:∃ q,packF a/2=q:=⟨_,rfl⟩
         obtain⟨l,hl⟩:∃ l,packF a=l:=⟨_,rfl⟩
         obtain⟨pb,hpb⟩:∃ b,decide ((0:Int)<a)=b:=⟨_,rfl⟩
         have hfo:(assume.take (j+1)).foldl (fun m a=>m.set (packF a/2) (decide (0<a))) xs=ys.set q pb:=by
          rw[List.take_succ_eq_append_getElem hkx,List.foldl_append,←HY.out,←gi_eq _ _ hkx,ha]
          show ys.set (packF a/2) (decide (0<a))=_
          rw[hq,hpb]
         rw[hq] at HVV hav
         rw[hl] at HPK HVV
         have c21:=H6.out.c_model
         rw[show (T.u_model ⟨some mb,k,ys⟩).model.xs.length=k from HYL.out] at c21
         have c21b:wr.cell? ⟨p,21,none⟩=some (.slice (some ⟨mb,0,none⟩) k k):=c21
         obtain⟨k4,f4⟩:=H6.out.r_model (b:=mb) rfl (i:=q) (x:=gB ys q) (gB_some _ _ (by rw[HYL.out];exact hav))
         simp only[vB] at k4
         have hset:=(H6.out.set_model (b:=mb) (i:=q) rfl (by show q<ys.length;rw[HYL.out];exact hav) pb).drewN 1
         have HSET:=Lib.hid hset
         have HFO:=Lib.hid hfo
         have p0:(0:Int)≤(j:Int):=by omega
         have p1:(j:Int)<(na:Int):=by omega
         have q0:(0:Int)≤(q:Int):=by omega
         have q1:(q:Int)<(k:Int):=by omega
         clear c21 hset hfo hq hl ha hkx ham hal hc
         go_upto_region 32 with fail
         go_still_tail 9,(by kernel_rfl)
         repeat still_step
         still_call ((HPK.out _).mono fun e w' h=>⟨h.1,h.2.symm⟩)
         repeat still_step
         still_call ((HVV.out _).mono fun e w' h=>⟨h.1,h.2.symm⟩)
         repeat still_step
         refine wpStill_nil ?_
         change wpList _ _ _ _ _ wr.drew
         go_wp2
         go_roundg (na-(j+1))
         case measure=>have:=hg.out;omega
         case rel=>exact⟨j+1,ys.set q pb,by go_num,by omega,rfl,Lib.hid (by rw[List.length_set];exact HYL.out),HFO.out.symm,HSET.out⟩
        ·obtain rfl:j=na:=by omega
         have e4:decide ((j:Int)<(j:Int))=false:=by simp
         have hyf:ys=assume.foldl (fun m a=>m.set (packF a/2) (decide (0<a))) xs:=by rw[HY.out,List.take_of_length_le (by rw[HNA.out];exact Nat.le_refl _)]
         have HYF:=Lib.hid hyf
         clear hyf hg
         go_wp2
         go_ret
         exact⟨by rw[HRR.out];rfl,_,H6.out,by rw[HRR.out,HSAT.out,←HYF.out];rfl⟩
    ·have e2:decide ((0:Int)<(v:Int))=true:=by simp;omega
     obtain⟨hvl,hnx⟩:=HD3.out hv
     have hk3:=HK3.out
     rw[if_neg hv] at hk3
     obtain⟨x,hx⟩:∃ x,gi L.value.xs v=x:=⟨_,rfl⟩
     obtain⟨N,hN⟩:∃ N,L.value.xs.length=N:=⟨_,rfl⟩
     have hvl2:v<N:=by rw[←hN];exact hvl
     obtain⟨bv,hbv⟩:=H2.out.b_value (by omega)
     obtain⟨k1,_⟩:=H2.out.r_value hbv (i:=v) (x:=x) (by rw[←hx];exact gi_map_eq _ _ (by omega))
     simp only[v8] at k1
     have c1:=H2.out.c_value
     rw[hbv,hN] at c1
     simp only[Option.map_some] at c1
     rw[show gi L.sv.value v=x from hx] at hk3 hnx
     have v0':(0:Int)≤(v:Int):=by omega
     have v1':(v:Int)<(N:Int):=by omega
     have HK4:=Lib.hid hk3
     have HNX:=Lib.hid hnx
     have HN:=Lib.hid hN
     have HVL:=Lib.hid hvl2
     clear hk3 hnx hx hbv hN hvl hvl2
     by_cases hx0:x=0
     ·subst hx0
      have e3:decide ((0:Int)=0)=true:=by simp
      have hk3:=HK4.out
      rw[if_pos (by first | rfl | trivial)] at hk3
      obtain⟨ne2,hne2⟩:∃ n,L.ends.xs.length=n:=⟨_,rfl⟩
      obtain⟨nt2,hnt2⟩:∃ n,L.trail.xs.length=n:=⟨_,rfl⟩
      have HNE:=Lib.hid hne2
      have HNT:=Lib.hid hnt2
      have hneb:ne2≤900000:=by rw[←hne2];exact HD2.out.el
      have hntb:nt2≤900000:=by rw[←hnt2];exact HD2.out.lk.trail
      have HK6:=Lib.hid hk3
      have hsm:N≤100000:=by rw[←HN.out];exact HD2.out.lk.small
      clear hk3 hne2 hnt2
      go_upto_region 16 with fail
      clear k1 c1
      have cE:=H2.out.c_ends
      have cT:=H2.out.c_trail
      have tE:=H2.out.t_ends
      rw[HNE.out] at cE tE
      rw[HNT.out] at cT
      have HTE:=Lib.hid tE
      have HLE:=Lib.hid H2.out.lastN
      clear tE
      refine wp_region_E 14 (fun V:World=>V.cell? ⟨p,13,none⟩=some (.slice (L.ends.a.map fun b=>⟨b,0,none⟩) ne2 L.ends.c)∧V.cell? ⟨p,12,none⟩=some (.slice (L.trail.a.map fun b=>⟨b,0,none⟩) nt2 L.trail.c)) (by kernel_rfl) ?_
      have HS0:(fun V:World=>V.cell? ⟨p,13,none⟩=some (.slice (L.ends.a.map fun b=>⟨b,0,none⟩) ne2 L.ends.c)∧V.cell? ⟨p,12,none⟩=some (.slice (L.trail.a.map fun b=>⟨b,0,none⟩) nt2 L.trail.c)) wr.drew:=⟨cE,cT⟩
      refine E_takeL (i:=0) (v:=?v2_1) rfl (by kernel_rfl) (by kernel_rfl) (by kernel_rfl) (by kernel_rfl) (fun _ _ _ h=>h) rfl ?hy2_1 HS0 ?_
      case hy2_1 =>
       intro V hSV
       try dsimp only at hSV
       first | (obtain⟨hSV1,hSV2,hSV3⟩:=hSV) | (obtain⟨hSV1,hSV2⟩:=hSV) | skip
       go_simp
       try with_reducible rfl
      try simp only[Act.put,List.setIfInBounds_toArray,List.set_cons_zero,List.set_cons_succ]
      refine E_takeL (i:=1) (v:=?v2_2) rfl (by kernel_rfl) (by kernel_rfl) (by kernel_rfl) (by kernel_rfl) (fun _ _ _ h=>h) rfl ?hy2_2 HS0 ?_
      case hy2_2 =>
       intro V hSV
       try dsimp only at hSV
       first | (obtain⟨hSV1,hSV2,hSV3⟩:=hSV) | (obtain⟨hSV1,hSV2⟩:=hSV) | skip
       go_simp
       try with_reducible rfl
      try simp only[Act.put,List.setIfInBounds_toArray,List.set_cons_zero,List.set_cons_succ]
      refine E_takeL (i:=2) (v:=?v2_3) rfl (by kernel_rfl) (by kernel_rfl) (by kernel_rfl) (by kernel_rfl) (fun _ _ _ h=>h) rfl ?hy2_3 HS0 ?_
      case hy2_3 =>
       intro V hSV
       try dsimp only at hSV
       first | (obtain⟨hSV1,hSV2,hSV3⟩:=hSV) | (obtain⟨hSV1,hSV2⟩:=hSV) | skip
       go_simp
       try with_reducible rfl
      try simp only[Act.put,List.setIfInBounds_toArray,List.set_cons_zero,List.set_cons_succ]
      refine E_takeL (i:=3) (v:=?v2_4) rfl (by kernel_rfl) (by kernel_rfl) (by kernel_rfl) (by kernel_rfl) (fun _ _ _ h=>h) rfl ?hy2_4 HS0 ?_
      case hy2_4 =>
       intro V hSV
       try dsimp only at hSV
       first | (obtain⟨hSV1,hSV2,hSV3⟩:=hSV) | (obtain⟨hSV1,hSV2⟩:=hSV) | skip
       go_simp
       try with_reducible rfl
      try simp only[Act.put,List.setIfInBounds_toArray,List.set_cons_zero,List.set_cons_succ]
      refine E_takeL (i:=4) (v:=?v2_5) rfl (by kernel_rfl) (by kernel_rfl) (by kernel_rfl) (by kernel_rfl) (fun _ _ _ h=>h) rfl ?hy2_5 HS0 ?_
      case hy2_5 =>
       intro V hSV
       try dsimp only at hSV
       first | (obtain⟨hSV1,hSV2,hSV3⟩:=hSV) | (obtain⟨hSV1,hSV2⟩:=hSV) | skip
       go_simp
       try with_reducible rfl
      try simp only[Act.put,List.setIfInBounds_toArray,List.set_cons_zero,List.set_cons_succ]
      refine E_takeL (i:=5) (v:=?v2_6) rfl (by kernel_rfl) (by kernel_rfl) (by kernel_rfl) (by kernel_rfl) (fun _ _ _ h=>h) rfl ?hy2_6 HS0 ?_
      case hy2_6 =>
       intro V hSV
       try dsimp only at hSV
       first | (obtain⟨hSV1,hSV2,hSV3⟩:=hSV) | (obtain⟨hSV1,hSV2⟩:=hSV) | skip
       go_simp
       try with_reducible rfl
      try simp only[Act.put,List.setIfInBounds_toArray,List.set_cons_zero,List.set_cons_succ]
      refine E_takeL (i:=6) (v:=?v2_7) rfl (by kernel_rfl) (by kernel_rfl) (by kernel_rfl) (by kernel_rfl) (fun _ _ _ h=>h) rfl ?hy2_7 HS0 ?_
      case hy2_7 =>
       intro V hSV
       try dsimp only at hSV
       first | (obtain⟨hSV1,hSV2,hSV3⟩:=hSV) | (obtain⟨hSV1,hSV2⟩:=hSV) | skip
       go_simp
       try with_reducible rfl
      try simp only[Act.put,List.setIfInBounds_toArray,List.set_cons_zero,List.set_cons_succ]
      refine E_takeL (i:=7) (v:=?v2_8) rfl (by kernel_rfl) (by kernel_rfl) (by kernel_rfl) (by kernel_rfl) (fun _ _ _ h=>h) rfl ?hy2_8 HS0 ?_
      case hy2_8 =>
       intro V hSV
       try dsimp only at hSV
       first | (obtain⟨hSV1,hSV2,hSV3⟩:=hSV) | (obtain⟨hSV1,hSV2⟩:=hSV) | skip
       go_simp
       try with_reducible rfl
      try simp only[Act.put,List.setIfInBounds_toArray,List.set_cons_zero,List.set_cons_succ]
      refine E_takeL (i:=8) (v:=?v2_9) rfl (by kernel_rfl) (by kernel_rfl) (by kernel_rfl) (by kernel_rfl) (fun _ _ _ h=>h) rfl ?hy2_9 HS0 ?_
      case hy2_9 =>
       intro V hSV
       try dsimp only at hSV
       first | (obtain⟨hSV1,hSV2,hSV3⟩:=hSV) | (obtain⟨hSV1,hSV2⟩:=hSV) | skip
       go_simp
       try with_reducible rfl
      try simp only[Act.put,List.setIfInBounds_toArray,List.set_cons_zero,List.set_cons_succ]
      refine E_takeL (i:=9) (v:=?v2_10) rfl (by kernel_rfl) (by kernel_rfl) (by kernel_rfl) (by kernel_rfl) (fun _ _ _ h=>h) rfl ?hy2_10 HS0 ?_
      case hy2_10 =>
       intro V hSV
       try dsimp only at hSV
       first | (obtain⟨hSV1,hSV2,hSV3⟩:=hSV) | (obtain⟨hSV1,hSV2⟩:=hSV) | skip
       go_simp
       try with_reducible rfl
      try simp only[Act.put,List.setIfInBounds_toArray,List.set_cons_zero,List.set_cons_succ]
      refine E_onlyL (i:=10) (by kernel_rfl) rfl (fun K hK=>?_)
      go_simp
      refine hK _ _ (⟨(World.cell?_alloc_some wr.drew _ (Obj.cells #[Value.int IntKind.i64 nt2] 3) (by rw[HS0.1];rfl)).trans HS0.1,(World.cell?_alloc_some wr.drew _ (Obj.cells #[Value.int IntKind.i64 nt2] 3) (by rw[HS0.2];rfl)).trans HS0.2⟩) ?_
      clear hK K
      try simp only[Act.put,List.setIfInBounds_toArray,List.set_cons_zero,List.set_cons_succ]
      refine E_onlyL (i:=11) (by kernel_rfl) rfl (fun K hK=>?_)
      refine step_append1 (by rfl) _ _ 27 3 (.int .i64 0) 8 (by rfl) Tryz.underlying27 Tryz.infoIntS rfl (HTE.out.drew.alloc _) (by rfl) wr.heap.size (.int .i64 nt2) (by rfl) (cell_new wr.drew _ _) rfl (by omega) (by simp only[maxLen];omega) ?_
      intro bE cE' wE hs _
      obtain⟨⟨kE,fE⟩,kE2⟩:=At.push_ends (M:=L) (x:=nt2) HLE.out HNE.out hs
      have cT2:wE.cell? ⟨p,12,none⟩=some (.slice (L.trail.a.map fun b=>⟨b,0,none⟩) nt2 L.trail.c):=by
       obtain⟨G,hG⟩:∃ G,star (sl (some bE) (ne2+1) cE' 3 1 (L.ends.xs.map vN++[vN nt2])) (star (stars ((parts p L).eraseIdx 7)) F)=star (pt p 92 (cellsM L)) G:=by
        rw[show stars ((parts p L).eraseIdx 7)=star (pt p 92 (cellsM L)) (stars (((parts p L).eraseIdx 7).eraseIdx 0)) from stars_focus rfl]
        exact⟨star (sl (some bE) (ne2+1) cE' 3 1 (L.ends.xs.map vN++[vN nt2])) (star (stars (((parts p L).eraseIdx 7).eraseIdx 0)) F),by ac_rfl⟩
       have h9:=(hs.conseq hG).pt_cell 12
       rw[←HNT.out]
       exact h9
      have HS2:(fun V:World=>V.cell? ⟨p,13,none⟩=some (.slice (L.ends.a.map fun b=>⟨b,0,none⟩) ne2 L.ends.c)∧V.cell? ⟨p,12,none⟩=some (.slice (L.trail.a.map fun b=>⟨b,0,none⟩) nt2 L.trail.c)) wE:=⟨kE,cT2⟩
      have HE9:=Lib.hid kE2
      clear hs kE2
      refine hK _ _ HS2 ?_
      clear hK K
      try simp only[Act.put,List.setIfInBounds_toArray,List.set_cons_zero,List.set_cons_succ]
      refine E_onlyL (i:=12) (by kernel_rfl) rfl (fun K hK=>?_)
      go_simp
      refine hK _ _ (HS2) ?_
      clear hK K
      try simp only[Act.put,List.setIfInBounds_toArray,List.set_cons_zero,List.set_cons_succ]
      refine E_onlyL (i:=13) (by kernel_rfl) rfl (fun K hK=>?_)
      go_simp
      refine hK _ _ (HS2) ?_
      clear hK K
      try simp only[Act.put,List.setIfInBounds_toArray,List.set_cons_zero,List.set_cons_succ]
      refine E_lastL (by kernel_rfl) rfl (by kernel_rfl) (fun K hK=>?_)
      go_simp
      refine hK _ _ ?_
      clear hK K
      clear HS0 HS2 cE cT kE fE cT2 HTE HLE
      have hso:MM.sv (L.u_ends ⟨some bE,cE',L.ends.xs++[nt2]⟩)=(MM.sv L).open_:=by unfold SM.open_;rw[show (MM.sv L).trail.length=nt2 from HNT.out];rfl
      obtain⟨ME,hME⟩:∃ ME,L.u_ends ⟨some bE,cE',L.ends.xs++[nt2]⟩=ME:=⟨_,rfl⟩
      have hvE:ME.value=L.value∧ME.level=L.level∧ME.reason=L.reason∧ME.trail=L.trail∧ME.phase=L.phase:=by rw[←hME];exact⟨rfl,rfl,rfl,rfl,rfl⟩
      have HVE:=Lib.hid hvE
      rw[hME] at hso HE9
      have HSO:=Lib.hid hso
      clear hso hME hvE
      revert HE9
      generalize wE.setCell ⟨p,13,none⟩ (.slice (some ⟨bE,0,none⟩) (ne2+1) cE')=w5
      intro H5
      obtain⟨ph,hph⟩:∃ b,gB L.phase.xs v=b:=⟨_,rfl⟩
      have hpl:L.phase.xs.length=N:=by rw[←HN.out];exact HD2.out.lk.sz.phase
      obtain⟨bp,hbp⟩:=H5.b_phase (by rw[HVE.out.2.2.2.2];omega)
      obtain⟨k4,_⟩:=H5.r_phase hbp (i:=v) (x:=ph) (by rw[HVE.out.2.2.2.2,←hph];exact gB_some _ _ (by rw[hpl];exact HVL.out))
      simp only[vB] at k4
      have c10:=H5.c_phase
      rw[hbp,HVE.out.2.2.2.2,hpl] at c10
      simp only[Option.map_some] at c10
      have HPH:=Lib.hid hph
      have HSET:=Lib.hid (fun l (hl:l/2=v)=>set_any (M:=ME) l (-1) H5 (by rw[HVE.out.1,hl,HN.out];exact HVL.out) (by rw[HVE.out.1,HVE.out.2.1];exact HD2.out.lk.sz.level) (by rw[HVE.out.1,HVE.out.2.2.1];exact HD2.out.lk.sz.reason) (by rw[HVE.out.1];exact HD2.out.lk.small) (by rw[HVE.out.2.2.2.1,HNT.out];omega))
      have hbo:=bits_or1 v (by omega)
      clear hph hpl hbp
      cases ph with
      | true =>
       go_wp2_with fail
       rw[show (v:Int)*2=((2*v:Nat):Int) by omega]
       refine (HSET.out (2*v) (by omega)).mono ?_
       rintro e w6 ⟨rfl,z1,z2,z3,z4,h6,h7⟩
       have hPP:P=((MM.sv ME).setL (2*v) (-1),true):=by rw[←HK6.out,show gB L.sv.phase v=true from HPH.out,HSO.out];rfl
       have hgo:=HGO.out
       rw[hPP] at hgo
       have H6:=Lib.hid h6
       have HS6:=Lib.hid h7
       have HGO2:=Lib.hid (show R=((MM.sv ME).setL (2*v) (-1),true) from hgo.symm)
       clear h6 h7 hPP hgo HSET
       go_wp2
       go_ret
       exact⟨by rw[HGO2.out];rfl,_,H6.out,by rw[HGO2.out];exact HS6.out⟩
      | false =>
       go_wp2_with fail
       rw[show (v:Int)*2=((2*v:Nat):Int) by omega,bits_or1 v (by omega)]
       refine (HSET.out (2*v+1) (by omega)).mono ?_
       rintro e w6 ⟨rfl,z1,z2,z3,z4,h6,h7⟩
       have hPP:P=((MM.sv ME).setL (2*v+1) (-1),true):=by rw[←HK6.out,show gB L.sv.phase v=false from HPH.out,HSO.out];rfl
       have hgo:=HGO.out
       rw[hPP] at hgo
       have H6:=Lib.hid h6
       have HS6:=Lib.hid h7
       have HGO2:=Lib.hid (show R=((MM.sv ME).setL (2*v+1) (-1),true) from hgo.symm)
       clear h6 h7 hPP hgo HSET
       go_wp2
       go_ret
       exact⟨by rw[HGO2.out];rfl,_,H6.out,by rw[HGO2.out];exact HS6.out⟩
     ·have e3:decide (x=0)=false:=by simpa using hx0
      have hk3:=HK4.out
      rw[if_neg hx0] at hk3
      have hpo:=HNX.out hx0
      obtain⟨g,rfl⟩:∃ g,gk=g+1:=by
       cases gk with
       | zero=>exact hpo.elim
       | succ g=>exact⟨g,rfl⟩
      have HTK:=Lib.hid (take_any H2.out HD2.out.hb)
      obtain⟨v2,hv2⟩:∃ v2,L.sv.take.2=v2:=⟨_,rfl⟩
      rw[hv2] at HTK
      have HV2:=Lib.hid hv2
      have HPO:=Lib.hid hpo
      have HK6:=Lib.hid hk3
      clear hk3 hpo hv2
      go_wp2_with fail
      refine HTK.out.mono ?_
      rintro e w2 ⟨rfl,y1,y2,y3,h3,h4⟩
      obtain⟨K2,hK2⟩:∃ K2,L.u_heap y1 y2 y3=K2:=⟨_,rfl⟩
      rw[hK2] at h3 h4
      have hvk:K2.sv.value.length=M.sv.value.length:=by rw[←hK2];exact HK5.out
      have H3:=Lib.hid h3
      have HS3:=Lib.hid h4
      have HVK:=Lib.hid hvk
      clear h3 h4 hK2 hvk HTK
      go_wp2
      go_roundg g
      case measure=>omega
      case rel=>exact⟨K2,L.sv,v2,rfl,H3.out,⟨HS3.out,HV2.out,HK6.out,HPO.out,HVK.out⟩⟩
end
end Go.Proofs.YthbbmdnfkkffjaaGreat

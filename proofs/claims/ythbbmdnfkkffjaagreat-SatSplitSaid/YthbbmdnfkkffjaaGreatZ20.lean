/-
  Parts of the proof, joined by program: Kp.
-/
import Derived.Test.YthbbmdnfkkffjaaGreatZ19
namespace Go.Proofs.YthbbmdnfkkffjaaGreat
open Go.RowKit Go.Proofs.PlaitSep Go.Proofs.PlaitPure Go.Proofs.PlaitSat
def SM.wBk (S:SM) (ph:List Bool) (va re:List Int) (hl pl tr en:List Nat) (nx:Nat):SM:={ S with phase:=ph,value:=va,reason:=re,hl:=hl,place:=pl,trail:=tr,ends:=en,next:=nx }
theorem back_facts {S:SM} (k:Nat) (hh:HInv S) (hz:Sz S) (ht:∀ l∈S.trail,l/2<S.value.length) :
  HInv (S.back k)∧Sz (S.back k)∧(S.back k).value.length=S.value.length∧(S.back k).trail.length≤S.trail.length∧∃ ph va re hl pl tr en nx,S.back k=SM.wBk S ph va re hl pl tr en nx:=by
 unfold SM.back
 split
 ·exact⟨hh,hz,rfl,Nat.le_refl _,_,_,_,_,_,_,_,_,rfl⟩
 ·obtain⟨h1,h2⟩:=hh.undoAll (S.trail.drop (gn S.ends k)) fun l hl=>ht l (List.mem_of_mem_drop hl)
  have h3:=undone_all S (S.trail.drop (gn S.ends k))
  obtain⟨T,hT⟩:∃ T,S.undoAll (S.trail.drop (gn S.ends k))=T:=⟨_,rfl⟩
  rw[hT] at h1 h2 h3 ⊢
  obtain⟨s1,s2,s3,s4⟩:=h3
  refine⟨⟨⟨h1.hb.small,h1.hb.vars,h1.hb.place,h1.hb.met,h1.hb.hl⟩,h1.pl,h1.bk⟩,?_,h2,by show (S.trail.take _).length≤_;rw[List.length_take];omega,T.phase,T.value,T.reason,T.hl,T.place,S.trail.take (gn S.ends k),S.ends.take k,gn S.ends k,?_⟩
  ·have e1:T.level=S.level:=by rw[s1]
   have e2:T.occurs=S.occurs:=by rw[s1]
   have e3:T.units=S.units:=by rw[s1]
   have e4:T.watches=S.watches:=by rw[s1]
   exact⟨by show T.level.length=T.value.length;rw[e1,s3];exact hz.level,by show T.reason.length=T.value.length;rw[s4,s3];exact hz.reason,by show T.phase.length=T.value.length;rw[s2,s3];exact hz.phase,by show T.occurs.length=T.value.length;rw[e2,s3];exact hz.occurs,by show T.units.length=T.value.length;rw[e3,s3];exact hz.units,by show T.watches.length=2*T.value.length;rw[e4,s3];exact hz.watches⟩
  ·have key:∀ X:SM,T=X→({ T with trail:=S.trail.take (gn S.ends k),ends:=S.ends.take k,next:=gn S.ends k }:SM)={ X with trail:=S.trail.take (gn S.ends k),ends:=S.ends.take k,next:=gn S.ends k }:=fun X e=>by rw[e]
   exact key _ s1
structure KpOk (S:SM) (c:List Nat) (fr:List Int) (h:Nat):Prop where
 hi:HInv S
 sz:Sz S
 tr:∀ l∈S.trail,l/2<S.value.length
 trl:S.trail.length≤900000
 el:S.ends.length≤900000
 en:h<S.ends.length→gn S.ends h≤S.trail.length
 hk:h≤900000
 words:S.words≤1000000000
 c0:0<c.length
 cl:c.length≤100000
 cv:∀ x∈c,x/2<S.value.length
 learned:S.learned.length≤900000
 f0:0<fr.length
 fl:fr.length≤1000000
 steps:S.steps.length≤5000000
 cls:S.cls.length≤900000
 rows:∀ r∈S.watches,r.length≤900000
section
variable {B:Nat} {w0 w:World} {p:Nat} {M:MM} {F:HP}
theorem HB.congr {S T:SM} (h:HB S) (hv:T.value.length=S.value.length) (hl:T.hl=S.hl) (hp:T.place=S.place) (hm:T.met=S.met):HB T :=
 ⟨by rw[hv];exact h.small,fun x hx=>by rw[hv];rw[hl] at hx;exact h.vars x hx,by rw[hp,hv];exact h.place,by rw[hm,hv];exact h.met,by rw[hl,hv];exact h.hl⟩
theorem HInv.congr {S T:SM} (h:HInv S) (hv:T.value.length=S.value.length) (hl:T.hl=S.hl) (hp:T.place=S.place) (hm:T.met=S.met):HInv T :=
 ⟨h.hb.congr hv hl hp hm,fun i hi=>by rw[hl] at hi ⊢;rw[hp];exact h.pl i hi,fun v hv2 h0=>by rw[hp] at h0 ⊢;rw[hl];rw[hv] at hv2;exact h.bk v hv2 h0⟩
theorem attach_hl (S:SM) (c:List Nat) (d:Int):(S.attach c d).hl=S.hl:=by unfold SM.attach;split <;> rfl
theorem attach_place (S:SM) (c:List Nat) (d:Int):(S.attach c d).place=S.place:=by unfold SM.attach;split <;> rfl
theorem attach_met (S:SM) (c:List Nat) (d:Int):(S.attach c d).met=S.met:=by unfold SM.attach;split <;> rfl
theorem attach_learned (S:SM) (c:List Nat) (d:Int):(S.attach c d).learned=S.learned:=by unfold SM.attach;split <;> rfl
set_option maxRecDepth 100000 in
set_option maxHeartbeats 4000000 in
theorem keep_any (li:Fl Nat) (fr:Fl Int) (lev:Nat) (h:At B w0 w p M (star (li.hp 98 vL) (star (fr.hp 3 vI) F))) (hok:KpOk M.sv li.xs fr.xs lev) :
  Calls Tryz.prog 95 #[.pointer (some ⟨p,0,none⟩),.agg #[li.v,fr.v,.int .i64 lev]] w fun e w'=>e=.returned (.tuple #[])∧∃ M',At B w0 w' p M' F∧M'.sv=M.sv.keep li.xs fr.xs lev:=by
 obtain⟨la,hla⟩:∃ a,(li.a.map fun b=>(⟨b,0,none⟩:Addr))=a:=⟨_,rfl⟩
 obtain⟨fa,hfa⟩:∃ a,(fr.a.map fun b=>(⟨b,0,none⟩:Addr))=a:=⟨_,rfl⟩
 obtain⟨n,hn⟩:∃ n,li.xs.length=n:=⟨_,rfl⟩
 obtain⟨m,hm⟩:∃ m,fr.xs.length=m:=⟨_,rfl⟩
 have hlv:li.v=.slice la n li.c:=by unfold Fl.v;rw[hla,hn]
 have hfv:fr.v=.slice fa m fr.c:=by unfold Fl.v;rw[hfa,hm]
 rw[hlv,hfv]
 have hn0:0<n:=by rw[←hn];exact hok.c0
 have hnb:n≤100000:=by rw[←hn];exact hok.cl
 have h1:=h.box #[.slice la n li.c,.slice fa m fr.c,.int .i64 lev] 129
 obtain⟨r0,hr0⟩:∃ r,w.heap.size=r:=⟨_,rfl⟩
 rw[hr0] at h1
 have HOK:=Lib.hid hok
 have HLA:=Lib.hid hla
 have HN:=Lib.hid hn
 have HM:=Lib.hid hm
 have HLV:=Lib.hid hlv
 have HFV:=Lib.hid hfv
 clear h hok hla hfa hn hm hlv hfv
 go_enter Tryz.func95,Tryz.ntmps95
 go_upto_region 1 with fail
 try rw[hr0]
 clear hr0
 revert h1
 generalize w.alloc (Obj.cells #[.slice la n li.c,.slice fa m fr.c,.int .i64 lev] 129)=w1
 intro h1
 have k2:=(h1.box_cell 2).1
 simp only[List.getElem?_cons_succ,List.getElem?_cons_zero] at k2
 have HB:=Lib.hid (back_any lev h1 HOK.out.hi HOK.out.sz HOK.out.tr (by have:=HOK.out.trl;show M.sv.trail.length≤_;omega) (by have:=HOK.out.el;show M.sv.ends.length≤_;omega) HOK.out.en (by have:=HOK.out.hk;omega))
 obtain⟨g1,g2,g3,g4,gph,gva,gre,ghl,gpl,gtr,gen,gnx,g5⟩:=back_facts lev HOK.out.hi HOK.out.sz HOK.out.tr
 obtain⟨S1,hS1⟩:∃ S1,M.sv.back lev=S1:=⟨_,rfl⟩
 rw[hS1] at g1 g2 g3 g4 g5 HB
 have HS1:=Lib.hid hS1
 have HG1:=Lib.hid g1
 have HG2:=Lib.hid g2
 have HG3:=Lib.hid g3
 have HG4:=Lib.hid g4
 have HG5:=Lib.hid (show S1.words=M.sv.words∧S1.learned=M.sv.learned∧S1.steps=M.sv.steps∧S1.cls=M.sv.cls∧S1.watches=M.sv.watches by rw[g5];exact⟨rfl,rfl,rfl,rfl,rfl⟩)
 clear g1 g2 g3 g4 g5 hS1 h1
 go_wp2_with fail
 refine HB.out.mono ?_
 rintro e w2 ⟨rfl,x1,x2,x3,x4,x5,x6,x7,x8,x9,h2,h3⟩
 obtain⟨M1,hM1⟩:∃ M1,M.u_back x1 x2 x3 x4 x5 x6 x7 x8 x9=M1:=⟨_,rfl⟩
 rw[hM1] at h2 h3
 have H2:=Lib.hid h2
 have HS2:=Lib.hid h3
 clear hM1 h2 h3 HB k2
 have c2:=H2.out.c_words
 obtain⟨wd,hwd⟩:∃ x,M1.words=x:=⟨_,rfl⟩
 rw[hwd] at c2
 have hwb:wd≤1000000000:=by
  have h9:M1.words=S1.words:=congrArg SM.words HS2.out
  rw[←hwd,h9,HG5.out.1];exact HOK.out.words
 obtain⟨k0,_⟩:=H2.out.box_cell 0
 simp only[List.getElem?_cons_zero] at k0
 have f2:=H2.out.fz 2
 have HWD:=Lib.hid hwd
 have H3:=Lib.hid ((H2.out.put_words (wd+(n+2))).drewN 1)
 clear hwd
 go_upto_region 2 with fail
 go_cut [] (fun wx=>wx=(w2.setCell ⟨p,2,none⟩ (.int .i64 ((wd+(n+2):Nat):Int))).drew)
 case first =>
  go_region
  all_goals (go_wp2_with fail;go_meet;rw[show ((wd+(n+2):Nat):Int)=(wd:Int)+((n:Int)+2) by omega])
 case rest =>
  subst hcut
  have H4:=Lib.hid (show At B w0 (w2.setCell ⟨p,2,none⟩ (.int .i64 ((wd+(n+2):Nat):Int))).drew p (M1.u_words (wd+(n+2))) (star (pt r0 129 [.slice la n li.c,.slice fa m fr.c,.int .i64 lev]) (star (li.hp 98 vL) (star (fr.hp 3 vI) F))) from H3.out)
  clear H3 H2 k0 f2 c2
  revert H4
  generalize (w2.setCell ⟨p,2,none⟩ (.int .i64 ((wd+(n+2):Nat):Int))).drew=w3
  intro H4
  obtain⟨M2,hM2⟩:∃ M2,M1.u_words (wd+(n+2))=M2:=⟨_,rfl⟩
  obtain⟨S2,hS2⟩:∃ S2:SM,S2={ S1 with words:=S1.words+(n+2) }:=⟨_,rfl⟩
  have hs2:MM.sv M2=S2:=by
   rw[←hM2,hS2,←HS2.out]
   show _=({ MM.sv M1 with words:=M1.words+(n+2) }:SM)
   rw[HWD.out]
   rfl
  rw[hM2] at H4
  have HS3:=Lib.hid hs2
  have HS2D:=Lib.hid hS2
  clear hs2 hM2 hS2 HS2 HWD hwb
  have k0:=(H4.out.box_cell 0).1
  simp only[List.getElem?_cons_zero] at k0
  have hli:∀ wr l,At B w0 wr p M2 (star ((l:Fl Int).hp 3 vI) (star (pt r0 129 [.slice la n li.c,.slice fa m fr.c,.int .i64 lev]) (star (li.hp 98 vL) (star (fr.hp 3 vI) F))))→At B w0 wr p M2 (star (li.hp 98 vL) (star (l.hp 3 vI) (star (pt r0 129 [.slice la n li.c,.slice fa m fr.c,.int .i64 lev]) (star (fr.hp 3 vI) F)))):=fun wr l hh=>hh.frame (by ac_rfl)
  have HLI:=Lib.hid hli
  obtain⟨bl,hbl⟩:=(H4.out.frame (show _=star (li.hp 98 vL) (star (pt r0 129 [.slice la n li.c,.slice fa m fr.c,.int .i64 lev]) (star (fr.hp 3 vI) F)) by ac_rfl)).frow_b (by rw[HN.out];exact hn0)
  obtain rfl:la=some ⟨bl,0,none⟩:=by rw[←HLA.out,hbl];rfl
  have HBL:=Lib.hid hbl
  clear hli hbl
  go_wp2
  clear k0
  go_loopg [4,26] n (fun g s4 s26 wr=>∃ (k:Nat) (l:Fl Int),s4=.slice (l.a.map fun b=>⟨b,0,none⟩) k l.c∧s26=.int .i64 k∧k≤n∧Hid (l.xs=(li.xs.take k).map numF)∧Hid (g=n-k) ∧
   Hid (At B w0 wr p M2 (star (l.hp 3 vI) (star (pt r0 129 [.slice (some ⟨bl,0,none⟩) n li.c,.slice fa m fr.c,.int .i64 lev]) (star (li.hp 98 vL) (star (fr.hp 3 vI) F))))))
  case atStart =>
   refine⟨0,⟨none,0,[]⟩,rfl,rfl,Nat.zero_le _,Lib.hid (by simp),rfl,Lib.hid (H4.out.frame ?_)⟩
   rw[show (⟨none,0,[]⟩:Fl Int).hp 3 vI=emp from sl_empty _ _,emp_star]
  case round =>
   obtain⟨k,l,rfl,rfl,hkn,HLX,hg,H5⟩:=hrel
   have hlx:l.xs.length=k:=by rw[HLX.out,List.length_map,List.length_take,HN.out];omega
   have HLL:=Lib.hid hlx
   clear hlx
   by_cases hkl:k<n
   ·have e2:decide ((k:Int)<(n:Int))=true:=by simp;omega
    obtain⟨y,hy⟩:∃ y,gn li.xs k=y:=⟨_,rfl⟩
    have hkx:k<li.xs.length:=by rw[HN.out];exact hkl
    obtain⟨k1,_⟩:=(HLI.out _ _ H5.out).frow_e HBL.out (j:=k) (x:=y) (by rw[←hy];exact gn_some _ _ hkx)
    simp only[vL] at k1
    have hyv:=HOK.out.cv y (by rw[←hy];exact gn_mem _ _ hkx)
    have hsm:M.sv.value.length≤100000:=HOK.out.hi.hb.small
    have HNU:=Lib.hid (fun V=>number_any y V (by omega))
    have HFR:=Lib.hid (H5.out.frow HLL.out)
    have HLN:=Lib.hid H5.out.lastN
    have HX:=Lib.hid (show (li.xs.take (k+1)).map numF=l.xs++[numF y] by rw[List.take_succ_eq_append_getElem hkx,List.map_append,HLX.out,←hy,gn_eq _ _ hkx];rfl)
    have p0:(0:Int)≤(k:Int):=by omega
    have p1:(k:Int)<(n:Int):=by omega
    clear hy hkx hsm hyv
    go_wp2_with fail
    refine (HNU.out _).mono ?_
    rintro e w5 ⟨rfl,rfl⟩
    go_wp2_with (at_builtin;refine wpList_append1 rfl _ _ 27 3 (.int .i64 0) 8 rfl Tryz.underlying27 Tryz.infoIntS rfl HFR.out rfl (.int .i64 (numF y)) rfl rfl (by omega) (by simp only[maxLen];omega) ?_;intro b' c' w5 hs;have h6:=At.fpush (M:=M2) (enc:=vI) (x:=numF y) HLN.out HLL.out hs;have H6:=Lib.hid h6;clear hs h6)
    go_roundg (n-(k+1))
    case measure=>have:=hg.out;omega
    case rel=>exact⟨k+1,⟨some b',c',l.xs++[numF y]⟩,rfl,by go_num,by omega,Lib.hid HX.out.symm,rfl,H6.out⟩
   ·obtain rfl:k=n:=by omega
    have e2:decide ((k:Int)<(k:Int))=false:=by simp
    have hlx:l.xs=li.xs.map numF:=by rw[HLX.out,List.take_of_length_le (by rw[HN.out];exact Nat.le_refl _)]
    have HLX2:=Lib.hid hlx
    clear hlx hg HLX H4
    go_upto_region 9 with fail
    obtain⟨nl,hnl⟩:∃ nl,M2.learned.xs.length=nl:=⟨_,rfl⟩
    have c18:=H5.out.c_learned
    have t18:=H5.out.t_learned
    rw[hnl] at c18 t18
    have hnlb:nl≤900000:=by
     have h9:(M2.learned.xs.map (·.xs))=S2.learned:=congrArg SM.learned HS3.out
     rw[←hnl,show M2.learned.xs.length=(M2.learned.xs.map (·.xs)).length by rw[List.length_map],h9,HS2D.out]
     show S1.learned.length≤_
     rw[HG5.out.2.1];exact HOK.out.learned
    have HT18:=Lib.hid t18
    have HNL:=Lib.hid hnl
    have HRV:=Lib.hid (show l.v=.slice (l.a.map fun b=>⟨b,0,none⟩) k l.c by unfold Fl.v;rw[HLL.out])
    have HLN:=Lib.hid H5.out.lastN
    clear t18 hnl
    go_upto_region 10 with (at_builtin;refine wpList_append1 rfl _ _ 37 27 (.slice none 0 0) 24 rfl Tryz.underlying37 Tryz.infoRow rfl HT18.out rfl (.slice (l.a.map fun b=>⟨b,0,none⟩) k l.c) rfl rfl (by omega) (by simp only[maxLen];omega) ?_;intro b' c' w5 hs;have h6:=At.pushrow_learned (M:=M2) (r:=l) HLN.out HNL.out (HRV.out▸hs);have H6:=Lib.hid h6;clear hs h6;obtain⟨c7,f7⟩:=H6.out.1)
    have h7:=H6.out.2
    clear H6 c7 f7 c18 HT18 HRV H5 HLN
    revert h7
    generalize w5.setCell ⟨p,18,none⟩ (.slice (some ⟨b',0,none⟩) (nl+1) c')=w6
    intro h7
    obtain⟨M3,hM3⟩:∃ M3,M2.u_learned ⟨some b',c',M2.learned.xs++[l]⟩=M3:=⟨_,rfl⟩
    obtain⟨S3,hS3⟩:∃ S3:SM,S3={ S1 with words:=S1.words+(k+2),learned:=S1.learned++[li.xs.map numF] }:=⟨_,rfl⟩
    have hs3:MM.sv M3=S3:=by
     rw[←hM3,hS3,←HLX2.out]
     have key:∀ X:SM,MM.sv M2=X→MM.sv (M2.u_learned ⟨some b',c',M2.learned.xs++[l]⟩)=({ X with learned:=X.learned++[l.xs] }:SM):=fun X e=>by
      rw[←e]
      show ({ MM.sv M2 with learned:=(M2.learned.xs++[l]).map (·.xs) }:SM)={ MM.sv M2 with learned:=M2.learned.xs.map (·.xs)++[l.xs] }
      rw[List.map_append]
      rfl
     rw[key S2 HS3.out,HS2D.out]
    rw[hM3] at h7
    have H7:=Lib.hid h7
    have HS4:=Lib.hid hs3
    have HS3D:=Lib.hid hS3
    have HLN3:=Lib.hid (show M3.learned.xs.length=nl+1 by rw[←hM3];show (M2.learned.xs++[l]).length=_;rw[List.length_append,HNL.out];rfl)
    clear h7 hs3 hS3 hM3 HS3 HNL HS2D
    have k0:=(H7.out.box_cell 0).1
    have k1:=(H7.out.box_cell 1).1
    simp only[List.getElem?_cons_zero,List.getElem?_cons_succ] at k0 k1
    have hfr:At B w0 w6.drew p M3 (star (fr.hp 3 vI) (star (pt r0 129 [.slice (some ⟨bl,0,none⟩) k li.c,.slice fa m fr.c,.int .i64 lev]) (star (li.hp 98 vL) F))):=((H7.out.drewN 1).frame (by ac_rfl))
    have hstp:=step_any (M:=M3) fr hfr HOK.out.f0 HOK.out.fl (by
     have h9:(M3.steps.xs.map (·.xs))=S3.steps:=congrArg SM.steps HS4.out
     rw[show M3.steps.xs.length=(M3.steps.xs.map (·.xs)).length by rw[List.length_map],h9,HS3D.out]
     show S1.steps.length≤_
     rw[HG5.out.2.2.1];exact HOK.out.steps)
    rw[HFV.out,HS4.out] at hstp
    obtain⟨x,hx⟩:∃ x,(S3.step fr.xs).2=x:=⟨_,rfl⟩
    rw[hx] at hstp
    have HSTP:=Lib.hid hstp
    have HX:=Lib.hid hx
    clear hfr hstp hx
    refine wp_region_E 11 (fun V:World=>V.cell? ⟨r0,0,none⟩=some (.slice (some ⟨bl,0,none⟩) k li.c)∧V.cell? ⟨r0,1,none⟩=some (.slice fa m fr.c)) (by kernel_rfl) ?_
    have HS0:(fun V:World=>V.cell? ⟨r0,0,none⟩=some (.slice (some ⟨bl,0,none⟩) k li.c)∧V.cell? ⟨r0,1,none⟩=some (.slice fa m fr.c)) w6.drew:=⟨k0,k1⟩
    refine E_takeL (i:=0) (v:=?v1) rfl (by kernel_rfl) (by kernel_rfl) (by kernel_rfl) (by kernel_rfl) (fun _ _ _ h=>h) rfl ?hy1 HS0 ?_
    case hy1 =>
     intro V hSV
     try dsimp only at hSV
     first | (obtain⟨hSV1,hSV2,hSV3⟩:=hSV) | (obtain⟨hSV1,hSV2⟩:=hSV) | skip
     go_simp
     try with_reducible rfl
    try simp only[Act.put,List.setIfInBounds_toArray,List.set_cons_zero,List.set_cons_succ]
    refine E_takeL (i:=1) (v:=?v2) rfl (by kernel_rfl) (by kernel_rfl) (by kernel_rfl) (by kernel_rfl) (fun _ _ _ h=>h) rfl ?hy2 HS0 ?_
    case hy2 =>
     intro V hSV
     try dsimp only at hSV
     first | (obtain⟨hSV1,hSV2,hSV3⟩:=hSV) | (obtain⟨hSV1,hSV2⟩:=hSV) | skip
     go_simp
     try with_reducible rfl
    try simp only[Act.put,List.setIfInBounds_toArray,List.set_cons_zero,List.set_cons_succ]
    refine E_takeL (i:=2) (v:=?v3) rfl (by kernel_rfl) (by kernel_rfl) (by kernel_rfl) (by kernel_rfl) (fun _ _ _ h=>h) rfl ?hy3 HS0 ?_
    case hy3 =>
     intro V hSV
     try dsimp only at hSV
     first | (obtain⟨hSV1,hSV2,hSV3⟩:=hSV) | (obtain⟨hSV1,hSV2⟩:=hSV) | skip
     go_simp
     try with_reducible rfl
    try simp only[Act.put,List.setIfInBounds_toArray,List.set_cons_zero,List.set_cons_succ]
    refine E_takeL (i:=3) (v:=?v4) rfl (by kernel_rfl) (by kernel_rfl) (by kernel_rfl) (by kernel_rfl) (fun _ _ _ h=>h) rfl ?hy4 HS0 ?_
    case hy4 =>
     intro V hSV
     try dsimp only at hSV
     first | (obtain⟨hSV1,hSV2,hSV3⟩:=hSV) | (obtain⟨hSV1,hSV2⟩:=hSV) | skip
     go_simp
     try with_reducible rfl
    try simp only[Act.put,List.setIfInBounds_toArray,List.set_cons_zero,List.set_cons_succ]
    refine E_takeL (i:=4) (v:=?v5) rfl (by kernel_rfl) (by kernel_rfl) (by kernel_rfl) (by kernel_rfl) (fun _ _ _ h=>h) rfl ?hy5 HS0 ?_
    case hy5 =>
     intro V hSV
     try dsimp only at hSV
     first | (obtain⟨hSV1,hSV2,hSV3⟩:=hSV) | (obtain⟨hSV1,hSV2⟩:=hSV) | skip
     go_simp
     try with_reducible rfl
    try simp only[Act.put,List.setIfInBounds_toArray,List.set_cons_zero,List.set_cons_succ]
    refine E_takeL (i:=5) (v:=?v6) rfl (by kernel_rfl) (by kernel_rfl) (by kernel_rfl) (by kernel_rfl) (fun _ _ _ h=>h) rfl ?hy6 HS0 ?_
    case hy6 =>
     intro V hSV
     try dsimp only at hSV
     first | (obtain⟨hSV1,hSV2,hSV3⟩:=hSV) | (obtain⟨hSV1,hSV2⟩:=hSV) | skip
     go_simp
     try with_reducible rfl
    try simp only[Act.put,List.setIfInBounds_toArray,List.set_cons_zero,List.set_cons_succ]
    refine E_takeL (i:=6) (v:=?v7) rfl (by kernel_rfl) (by kernel_rfl) (by kernel_rfl) (by kernel_rfl) (fun _ _ _ h=>h) rfl ?hy7 HS0 ?_
    case hy7 =>
     intro V hSV
     try dsimp only at hSV
     first | (obtain⟨hSV1,hSV2,hSV3⟩:=hSV) | (obtain⟨hSV1,hSV2⟩:=hSV) | skip
     go_simp
     try with_reducible rfl
    try simp only[Act.put,List.setIfInBounds_toArray,List.set_cons_zero,List.set_cons_succ]
    refine E_takeL (i:=7) (v:=?v8) rfl (by kernel_rfl) (by kernel_rfl) (by kernel_rfl) (by kernel_rfl) (fun _ _ _ h=>h) rfl ?hy8 HS0 ?_
    case hy8 =>
     intro V hSV
     try dsimp only at hSV
     first | (obtain⟨hSV1,hSV2,hSV3⟩:=hSV) | (obtain⟨hSV1,hSV2⟩:=hSV) | skip
     go_simp
     try with_reducible rfl
    try simp only[Act.put,List.setIfInBounds_toArray,List.set_cons_zero,List.set_cons_succ]
    refine E_onlyL (i:=8) (by kernel_rfl) rfl (fun K hK=>?_)
    go_simp
    refine HSTP.out.mono ?_
    rintro e w7 ⟨rfl,s7,h8,h9⟩
    obtain⟨M4,hM4⟩:∃ M4,M3.u_steps s7=M4:=⟨_,rfl⟩
    rw[hM4] at h8 h9
    obtain⟨S4,hS4⟩:∃ S4,(S3.step fr.xs).1=S4:=⟨_,rfl⟩
    rw[hS4] at h9
    have hst4:=step_unt S3 fr.xs
    rw[hS4] at hst4
    have H8:=Lib.hid h8
    have HS5:=Lib.hid h9
    have HS4D:=Lib.hid hS4
    have HG6:=Lib.hid (show S4.cls=S1.cls∧S4.watches=S1.watches∧S4.value=S1.value∧S4.level=S1.level∧S4.reason=S1.reason∧S4.trail=S1.trail∧S4.learned.length=nl+1∧S4.hl=S1.hl∧S4.place=S1.place∧S4.met=S1.met by
     have hl3:S3.learned.length=nl+1:=by
      have h11:(M3.learned.xs.map (·.xs))=S3.learned:=congrArg SM.learned HS4.out
      rw[←h11,List.length_map];exact HLN3.out
     rw[hst4.2.2]
     refine⟨?_,?_,?_,?_,?_,?_,hl3,?_,?_,?_⟩ <;> (rw[HS3D.out];rfl))
    clear h8 h9 hS4 hM4 hst4 HSTP
    have k2:=(H8.out.box_cell 0).1
    have k3:=(H8.out.box_cell 1).1
    simp only[List.getElem?_cons_zero,List.getElem?_cons_succ] at k2 k3
    refine hK _ _ ⟨k2,k3⟩ ?_
    clear hK K
    try simp only[Act.put,List.setIfInBounds_toArray,List.set_cons_zero,List.set_cons_succ]
    refine E_onlyL (i:=9) (by kernel_rfl) rfl (fun K hK=>?_)
    go_simp
    refine hK _ _ (⟨k2,k3⟩) ?_
    clear hK K
    try simp only[Act.put,List.setIfInBounds_toArray,List.set_cons_zero,List.set_cons_succ]
    refine E_onlyL (i:=10) (by kernel_rfl) rfl (fun K hK=>?_)
    go_simp
    have hcl4:M4.cls.xs.length≤900000:=by
     have h9:(M4.cls.xs.map fun x=>(x.1.xs,x.2))=S4.cls:=congrArg SM.cls HS5.out
     rw[show M4.cls.xs.length=(M4.cls.xs.map fun x=>(x.1.xs,x.2)).length by rw[List.length_map],h9,HG6.out.1,HG5.out.2.2.2.1]
     exact HOK.out.cls
    have hw4:(M4.watches.xs.map (·.xs))=M.sv.watches:=by
     have h9:(M4.watches.xs.map (·.xs))=S4.watches:=congrArg SM.watches HS5.out
     rw[h9,HG6.out.2.1,HG5.out.2.2.2.2]
    have hwl:M4.watches.xs.length=2*M.sv.value.length:=by
     rw[show M4.watches.xs.length=(M4.watches.xs.map (·.xs)).length by rw[List.length_map],hw4]
     exact HOK.out.sz.watches
    have hsm:M.sv.value.length≤100000:=HOK.out.hi.hb.small
    have hat:=attach_any (M:=M4) li x ((H8.out).frame (show _=star (li.hp 98 vL) (star (pt r0 129 [.slice (some ⟨bl,0,none⟩) k li.c,.slice fa m fr.c,.int .i64 lev]) F) by ac_rfl)) (by omega)
     (fun r hr=>by have h9:=HOK.out.rows r.xs (by rw[←hw4];exact List.mem_map.2 ⟨r,hr,rfl⟩);omega) (fun y hy=>by have h9:=HOK.out.cv y hy;omega) (by omega) (by rw[HN.out];omega)
    obtain⟨nc,hnc⟩:∃ nc,M4.cls.xs.length=nc:=⟨_,rfl⟩
    rw[HLV.out,hnc] at hat
    have HAT:=Lib.hid hat
    have HNC:=Lib.hid hnc
    clear hat hnc hcl4 hw4 hwl hsm
    refine HAT.out.mono ?_
    rintro e w8 ⟨rfl,M5,h10,h11,h12⟩
    have H10:=Lib.hid h10
    have HS6:=Lib.hid h11
    have HC5:=Lib.hid h12
    clear h10 h11 h12 HAT
    have k4:=(H10.out.box_cell 0).1
    have k5:=(H10.out.box_cell 1).1
    simp only[List.getElem?_cons_zero,List.getElem?_cons_succ] at k4 k5
    refine hK _ _ ⟨k4,k5⟩ ?_
    clear hK K
    try simp only[Act.put,List.setIfInBounds_toArray,List.set_cons_zero,List.set_cons_succ]
    refine E_lastL (by kernel_rfl) rfl (by kernel_rfl) (fun K hK=>?_)
    go_simp
    refine hK _ _ ?_
    clear hK K
    clear HS0 k0 k1 k2 k3 k5
    have hkeep:M.sv.keep li.xs fr.xs lev=(if ((MM.sv M5).setL (gn li.xs 0) nc).learned.length % 128=0 then ((MM.sv M5).setL (gn li.xs 0) nc).fade else (MM.sv M5).setL (gn li.xs 0) nc):=by
     unfold SM.keep
     rw[HS1.out,HN.out,←HS3D.out]
     dsimp only
     rw[HX.out,HS4D.out,show S4.cls.length=nc by rw[←HNC.out,show M4.cls.xs.length=(M4.cls.xs.map fun x=>(x.1.xs,x.2)).length by rw[List.length_map],show (M4.cls.xs.map fun x=>(x.1.xs,x.2))=S4.cls from congrArg SM.cls HS5.out],HS6.out,HS5.out]
    have HKEEP:=Lib.hid hkeep
    clear hkeep
    have hr5:M5.cls.xs[nc]?=some (li,x):=by rw[HC5.out,←HNC.out];simp
    obtain⟨y,hy⟩:∃ y,gn li.xs 0=y:=⟨_,rfl⟩
    have hl0:0<li.xs.length:=by rw[HN.out];exact hn0
    obtain⟨e5,_⟩:=H10.out.e_cls hr5 HBL.out (j:=0) (x:=y) (by rw[←hy];exact gn_some _ _ hl0)
    have hvl:M5.value.xs=S1.value:=by
     have h9:M5.value.xs=((MM.sv M4).attach li.xs x).value:=congrArg SM.value HS6.out
     rw[h9,attach_value,HS5.out,HG6.out.2.2.1]
    have hll:M5.level.xs=S1.level:=by
     have h9:M5.level.xs=((MM.sv M4).attach li.xs x).level:=congrArg SM.level HS6.out
     rw[h9,attach_level,HS5.out,HG6.out.2.2.2.1]
    have hrl:M5.reason.xs=S1.reason:=by
     have h9:M5.reason.xs=((MM.sv M4).attach li.xs x).reason:=congrArg SM.reason HS6.out
     rw[h9,attach_reason,HS5.out,HG6.out.2.2.2.2.1]
    have htl:M5.trail.xs=S1.trail:=by
     have h9:M5.trail.xs=((MM.sv M4).attach li.xs x).trail:=congrArg SM.trail HS6.out
     rw[h9,attach_trail,HS5.out,HG6.out.2.2.2.2.2.1]
    have hnv:S1.value.length=M.sv.value.length:=HG3.out
    have hsm:M.sv.value.length≤100000:=HOK.out.hi.hb.small
    have hyv:y/2<M.sv.value.length:=by rw[←hy];exact HOK.out.cv _ (gn_mem _ _ hl0)
    have HSET:=Lib.hid (set_any (M:=M5) y nc H10.out (by rw[hvl,hnv];exact hyv) (by rw[hll,hvl];exact HG2.out.level) (by rw[hrl,hvl];exact HG2.out.reason) (by rw[hvl,hnv];exact hsm) (by rw[htl];have h9:=HG4.out;have h8:=HOK.out.trl;omega))
    rw[hy] at HKEEP
    have HVL:=Lib.hid hvl
    have HSV:=Lib.hid (show S1.value.length=M.sv.value.length from hnv)
    have n0:(0:Int)<(k:Int):=by omega
    clear hr5 hy hl0 hvl hll hrl htl hnv hsm hyv
    go_wp2_with fail
    refine HSET.out.mono ?_
    rintro e w9 ⟨rfl,z1,z2,z3,z4,h13,h14⟩
    have hn5:M5.learned.xs.length=nl+1:=by
     have h9:(M5.learned.xs.map (·.xs))=((MM.sv M4).attach li.xs x).learned:=congrArg SM.learned HS6.out
     rw[show M5.learned.xs.length=(M5.learned.xs.map (·.xs)).length by rw[List.length_map],h9,attach_learned,HS5.out]
     exact HG6.out.2.2.2.2.2.2.1
    obtain⟨M6,hM6⟩:∃ M6,M5.u_set z1 z2 z3 z4=M6:=⟨_,rfl⟩
    have hn6:M6.learned.xs.length=nl+1:=by rw[←hM6];exact hn5
    rw[hM6] at h13 h14
    have H13:=Lib.hid h13
    have HS13:=Lib.hid h14
    have c18:=h13.c_learned
    rw[hn6] at c18
    have hln:((MM.sv M5).setL y nc).learned.length=nl+1:=by
     rw[←h14]
     show (M6.learned.xs.map (·.xs)).length=nl+1
     rw[List.length_map];exact hn6
    rw[hln] at HKEEP
    clear h13 h14 hM6 HSET k4 e5 hn5 hn6 hln
    by_cases h128:(nl+1) % 128=0
    ·have e6:decide ((((nl+1) % 128:Nat):Int)=0)=true:=by simp;omega
     have hhb:HB (MM.sv M6):=by
      rw[HS13.out]
      refine HG1.out.hb.congr ?_ ?_ ?_ ?_
      ·show ((MM.sv M5).value.set _ _).length=_
       rw[List.length_set]
       exact congrArg List.length HVL.out
      ·show (MM.sv M5).hl=_
       rw[HS6.out,attach_hl,HS5.out];exact HG6.out.2.2.2.2.2.2.2.1
      ·show (MM.sv M5).place=_
       rw[HS6.out,attach_place,HS5.out];exact HG6.out.2.2.2.2.2.2.2.2.1
      ·show (MM.sv M5).met=_
       rw[HS6.out,attach_met,HS5.out];exact HG6.out.2.2.2.2.2.2.2.2.2
     have HFD:=Lib.hid (fade_any H13.out hhb)
     have HKP:=Lib.hid (show M.sv.keep li.xs fr.xs lev=(MM.sv M6).fade by rw[HKEEP.out,if_pos h128,HS13.out])
     clear hhb
     go_wp2_with fail
     refine HFD.out.mono ?_
     rintro e w10 ⟨rfl,v1,v2,v3,h20,h21⟩
     have H20:=Lib.hid h20
     have HS20:=Lib.hid h21
     clear h20 h21 HFD
     go_wp2
     go_end0
     exact⟨rfl,_,H20.out.dropF,by rw[HKP.out];exact HS20.out⟩
    ·have e6:decide ((((nl+1) % 128:Nat):Int)=0)=false:=by simp;omega
     have HKP:=Lib.hid (show M.sv.keep li.xs fr.xs lev=MM.sv M6 by rw[HKEEP.out,if_neg h128,HS13.out])
     go_wp2
     go_end0
     exact⟨rfl,_,H13.out.dropF,HKP.out.symm⟩
end
end Go.Proofs.YthbbmdnfkkffjaaGreat

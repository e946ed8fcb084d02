/-
  Parts of the proof, joined by program: Kp, Pi1.
-/
import Derived.Test.YthbbmdnfkkffjaaGreatY17
import Derived.Test.YthbbmdnfkkffjaaGreatY01
import Derived.Lib.Hide
set_option maxHeartbeats 8000000
set_option maxRecDepth 100000
namespace Go.Proofs.YthbbmdnfkkffjaaGreat
open Go.RowKit Go.Proofs.aC Go.Proofs.au Go.Proofs.aA
def SM.wBk (S:SM) (ph:List Bool) (va re:List Int) (hl pl tr en:List Nat) (nx:Nat):SM:={ S with phase:=ph,value:=va,reason:=re,hl:=hl,place:=pl,trail:=tr,ends:=en,next:=nx }
theorem j3 {S:SM} (k:Nat) (hh:bG S) (hz:Sz S) (ht:∀ l∈S.trail,l/2<S.value.length) :
  bG (S.back k)∧Sz (S.back k)∧(S.back k).value.length=S.value.length∧(S.back k).trail.length≤S.trail.length∧∃ ph va re hl pl tr en nx,S.back k=SM.wBk S ph va re hl pl tr en nx:=by
 unfold SM.back
 split
 ·exact⟨hh,hz,rfl,Nat.le_refl _,_,_,_,_,_,_,_,_,rfl⟩
 ·obtain⟨h1,h2⟩:=hh.dS (S.trail.drop (gn S.ends k)) fun l hl=>ht l (List.mem_of_mem_drop hl);have h3:=rQ S (S.trail.drop (gn S.ends k));obtain⟨T,hT⟩:∃ T,S.dS (S.trail.drop (gn S.ends k))=T:=⟨_,rfl⟩;rw[hT] at h1 h2 h3 ⊢;obtain⟨s1,s2,s3,s4⟩:=h3;refine⟨⟨⟨h1.hb.small,h1.hb.vars,h1.hb.place,h1.hb.met,h1.hb.hl⟩,h1.pl,h1.bk⟩,?_,h2,by show (S.trail.take _).length≤_;rw[List.length_take];omega,T.phase,T.value,T.reason,T.hl,T.place,S.trail.take (gn S.ends k),S.ends.take k,gn S.ends k,?_⟩
  ·have e1:T.level=S.level:=by rw[s1]
   have e2:T.occurs=S.occurs:=by rw[s1]
   have e3:T.units=S.units:=by rw[s1]
   have e4:T.aj=S.aj:=by rw[s1]
   exact⟨by show T.level.length=T.value.length;rw[e1,s3];exact hz.level,by show T.reason.length=T.value.length;rw[s4,s3];exact hz.reason,by show T.phase.length=T.value.length;rw[s2,s3];exact hz.phase,by show T.occurs.length=T.value.length;rw[e2,s3];exact hz.occurs,by show T.units.length=T.value.length;rw[e3,s3];exact hz.units,by show T.aj.length=2*T.value.length;rw[e4,s3];exact hz.aj⟩
  ·have key:∀ X:SM,T=X→({ T with trail:=S.trail.take (gn S.ends k),ends:=S.ends.take k,next:=gn S.ends k }:SM)={ X with trail:=S.trail.take (gn S.ends k),ends:=S.ends.take k,next:=gn S.ends k }:=fun X e=>by rw[e]
   exact key _ s1
structure abr (S:SM) (c:List Nat) (fr:List Int) (h:Nat):Prop where
 hi:bG S
 sz:Sz S
 tr:∀ l∈S.trail,l/2<S.value.length
 trl:S.trail.length≤900000
 el:S.ends.length≤900000
 en:h<S.ends.length→gn S.ends h≤S.trail.length
 hk:h≤900000
 words:S.words≤1000000000
 c0:0<c.length
 cl:c.length≤100000
 cv:∀ x∈c,x/2<S.value.length
 learned:S.learned.length≤900000
 f0:0<fr.length
 fl:fr.length≤1000000
 steps:S.steps.length≤5000000
 cls:S.cls.length≤900000
 rows:∀ r∈S.aj,r.length≤900000
section
variable {B:Nat} {w0 w:World} {p:Nat} {M:MM} {F:HP}
theorem HB.congr {S T:SM} (h:HB S) (hv:T.value.length=S.value.length) (hl:T.hl=S.hl) (hp:T.place=S.place) (hm:T.met=S.met):HB T :=
 ⟨by rw[hv];exact h.small,fun x hx=>by rw[hv];rw[hl] at hx;exact h.vars x hx,by rw[hp,hv];exact h.place,by rw[hm,hv];exact h.met,by rw[hl,hv];exact h.hl⟩
theorem bG.congr {S T:SM} (h:bG S) (hv:T.value.length=S.value.length) (hl:T.hl=S.hl) (hp:T.place=S.place) (hm:T.met=S.met):bG T :=
 ⟨h.hb.congr hv hl hp hm,fun i hi=>by rw[hl] at hi ⊢;rw[hp];exact h.pl i hi,fun v hv2 h0=>by rw[hp] at h0 ⊢;rw[hl];rw[hv] at hv2;exact h.bk v hv2 h0⟩
theorem U3 (S:SM) (c:List Nat) (d:Int):(S.attach c d).hl=S.hl:=by unfold SM.attach;split <;> rfl
theorem KO (S:SM) (c:List Nat) (d:Int):(S.attach c d).place=S.place:=by unfold SM.attach;split <;> rfl
theorem QY (S:SM) (c:List Nat) (d:Int):(S.attach c d).met=S.met:=by unfold SM.attach;split <;> rfl
theorem FH (S:SM) (c:List Nat) (d:Int):(S.attach c d).learned=S.learned:=by unfold SM.attach;split <;> rfl
theorem Yn (li:Fl Nat) (fr:Fl Int) (jo:Nat) (h:At B w0 w p M (star (li.hp 98 vL) (star (fr.hp 3 vI) F))) (hok:abr M.sv li.xs fr.xs jo) :
  Calls Tryz.prog 95 #[.pointer (some ⟨p,0,none⟩),.agg #[li.v,fr.v,.int .i64 jo]] w fun e w'=>e=.returned (.tuple #[])∧∃ M',At B w0 w' p M' F∧M'.sv=M.sv.keep li.xs fr.xs jo:=by
 obtain⟨la,hla⟩:∃ a,(li.a.map fun b=>(⟨b,0,none⟩:Addr))=a:=⟨_,rfl⟩;obtain⟨fa,hfa⟩:∃ a,(fr.a.map fun b=>(⟨b,0,none⟩:Addr))=a:=⟨_,rfl⟩;obtain⟨n,hn⟩:∃ n,li.xs.length=n:=⟨_,rfl⟩;obtain⟨m,hm⟩:∃ m,fr.xs.length=m:=⟨_,rfl⟩;have hlv:li.v=.slice la n li.c:=by unfold Fl.v;rw[hla,hn]
 have hfv:fr.v=.slice fa m fr.c:=by unfold Fl.v;rw[hfa,hm]
 rw[hlv,hfv];have hn0:0<n:=by rw[←hn];exact hok.c0
 have hnb:n≤100000:=by rw[←hn];exact hok.cl
 have h1:=h.box #[.slice la n li.c,.slice fa m fr.c,.int .i64 jo] 129;obtain⟨r0,hr0⟩:∃ r,w.heap.size=r:=⟨_,rfl⟩;rw[hr0] at h1;have fA:=zH hok;have U4:=zH hla;have HN:=zH hn;have HM:=zH hm;have Ig:=zH hlv;have HFV:=zH hfv;clear h hok hla hfa hn hm hlv hfv
 go_enter Tryz.func95,Tryz.ntmps95
 go_upto_region 1 with fail
 try rw[hr0]
 clear hr0;revert h1;generalize w.alloc (Obj.cells #[.slice la n li.c,.slice fa m fr.c,.int .i64 jo] 129)=w1;intro h1;have k2:=(h1.cu 2).1;simp only[List.getElem?_cons_succ,List.getElem?_cons_zero] at k2;have HB:=zH (MB jo h1 fA.out.hi fA.out.sz fA.out.tr (by have:=fA.out.trl;show M.sv.trail.length≤_;omega) (by have:=fA.out.el;show M.sv.ends.length≤_;omega) fA.out.en (by have:=fA.out.hk;omega));obtain⟨g1,g2,g3,g4,gph,gva,gre,ghl,gpl,gtr,gen,gnx,g5⟩:=j3 jo fA.out.hi fA.out.sz fA.out.tr;obtain⟨S1,hS1⟩:∃ S1,M.sv.back jo=S1:=⟨_,rfl⟩;rw[hS1] at g1 g2 g3 g4 g5 HB;have yw:=zH hS1;have Jb:=zH g1;have HG2:=zH g2;have HG3:=zH g3;have HG4:=zH g4;have HG5:=zH (show S1.words=M.sv.words∧S1.learned=M.sv.learned∧S1.steps=M.sv.steps∧S1.cls=M.sv.cls∧S1.aj=M.sv.aj by rw[g5];exact⟨rfl,rfl,rfl,rfl,rfl⟩);clear g1 g2 g3 g4 g5 hS1 h1
 go_wp2_with fail
 refine HB.out.mono ?_
 rintro e w2 ⟨rfl,x1,x2,x3,x4,x5,x6,x7,x8,x9,h2,h3⟩
 obtain⟨M1,hM1⟩:∃ M1,M.yj x1 x2 x3 x4 x5 x6 x7 x8 x9=M1:=⟨_,rfl⟩;rw[hM1] at h2 h3;have H2:=zH h2;have HS2:=zH h3;clear hM1 h2 h3 HB k2;have c2:=H2.out.Dq;obtain⟨wd,hwd⟩:∃ x,M1.words=x:=⟨_,rfl⟩;rw[hwd] at c2
 have hwb:wd≤1000000000:=by
  have h9:M1.words=S1.words:=congrArg SM.words HS2.out;rw[←hwd,h9,HG5.out.1];exact fA.out.words
 obtain⟨k0,_⟩:=H2.out.cu 0;simp only[List.getElem?_cons_zero] at k0;have f2:=H2.out.fz 2;have Ik:=zH hwd;have H3:=zH ((H2.out.Bg (wd+(n+2))).drewN 1);clear hwd
 go_upto_region 2 with fail
 go_cut [] (fun wx=>wx=(w2.setCell ⟨p,2,none⟩ (.int .i64 ((wd+(n+2):Nat):Int))).drew)
 case first =>
  go_region
  all_goals (go_wp2_with fail;go_meet;rw[show ((wd+(n+2):Nat):Int)=(wd:Int)+((n:Int)+2) by omega])
 case rest =>
  subst hcut;have H4:=zH (show At B w0 (w2.setCell ⟨p,2,none⟩ (.int .i64 ((wd+(n+2):Nat):Int))).drew p (M1.Dn (wd+(n+2))) (star (pt r0 129 [.slice la n li.c,.slice fa m fr.c,.int .i64 jo]) (star (li.hp 98 vL) (star (fr.hp 3 vI) F))) from H3.out);clear H3 H2 k0 f2 c2;revert H4;generalize (w2.setCell ⟨p,2,none⟩ (.int .i64 ((wd+(n+2):Nat):Int))).drew=w3;intro H4;obtain⟨M2,hM2⟩:∃ M2,M1.Dn (wd+(n+2))=M2:=⟨_,rfl⟩;obtain⟨S2,hS2⟩:∃ S2:SM,S2={ S1 with words:=S1.words+(n+2) }:=⟨_,rfl⟩
  have hs2:MM.sv M2=S2:=by
   rw[←hM2,hS2,←HS2.out];show _=({ MM.sv M1 with words:=M1.words+(n+2) }:SM);rw[Ik.out];rfl
  rw[hM2] at H4;have Hy:=zH hs2;have aem:=zH hS2;clear hs2 hM2 hS2 HS2 Ik hwb;have k0:=(H4.out.cu 0).1;simp only[List.getElem?_cons_zero] at k0;have Bu:∀ wr l,At B w0 wr p M2 (star ((l:Fl Int).hp 3 vI) (star (pt r0 129 [.slice la n li.c,.slice fa m fr.c,.int .i64 jo]) (star (li.hp 98 vL) (star (fr.hp 3 vI) F))))→At B w0 wr p M2 (star (li.hp 98 vL) (star (l.hp 3 vI) (star (pt r0 129 [.slice la n li.c,.slice fa m fr.c,.int .i64 jo]) (star (fr.hp 3 vI) F)))):=fun wr l hh=>hh.frame (by ac_rfl);have Db:=zH Bu;obtain⟨bl,hbl⟩:=(H4.out.frame (show _=star (li.hp 98 vL) (star (pt r0 129 [.slice la n li.c,.slice fa m fr.c,.int .i64 jo]) (star (fr.hp 3 vI) F)) by ac_rfl)).Yc (by rw[HN.out];exact hn0);obtain rfl:la=some ⟨bl,0,none⟩:=by rw[←U4.out,hbl];rfl
  have KF:=zH hbl;clear Bu hbl
  go_wp2
  clear k0
  go_loopg [4,26] n (fun g s4 s26 wr=>∃ (k:Nat) (l:Fl Int),s4=.slice (l.a.map fun b=>⟨b,0,none⟩) k l.c∧s26=.int .i64 k∧k≤n∧Hid (l.xs=(li.xs.take k).map bI)∧Hid (g=n-k) ∧
   Hid (At B w0 wr p M2 (star (l.hp 3 vI) (star (pt r0 129 [.slice (some ⟨bl,0,none⟩) n li.c,.slice fa m fr.c,.int .i64 jo]) (star (li.hp 98 vL) (star (fr.hp 3 vI) F))))))
  case atStart =>
   refine⟨0,⟨none,0,[]⟩,rfl,rfl,Nat.zero_le _,zH (by simp),rfl,zH (H4.out.frame ?_)⟩;rw[show (⟨none,0,[]⟩:Fl Int).hp 3 vI=emp from gK _ _,iA]
  case round =>
   obtain⟨k,l,rfl,rfl,hkn,HLX,hg,H5⟩:=hrel;have hlx:l.xs.length=k:=by rw[HLX.out,List.length_map,List.length_take,HN.out];omega
   have LU:=zH hlx;clear hlx
   by_cases hkl:k<n
   ·have e2:decide ((k:Int)<(n:Int))=true:=by simp;omega
    obtain⟨y,hy⟩:∃ y,gn li.xs k=y:=⟨_,rfl⟩;have hkx:k<li.xs.length:=by rw[HN.out];exact hkl
    obtain⟨k1,_⟩:=(Db.out _ _ H5.out).FC KF.out (j:=k) (x:=y) (by rw[←hy];exact aM _ _ hkx);simp only[vL] at k1;have hyv:=fA.out.cv y (by rw[←hy];exact aU _ _ hkx);have hsm:M.sv.value.length≤100000:=fA.out.hi.hb.small;have HNU:=zH (fun V=>yh y V (by omega));have MP:=zH (H5.out.ML LU.out);have fP:=zH H5.out.bA;have HX:=zH (show (li.xs.take (k+1)).map bI=l.xs++[bI y] by rw[List.take_succ_eq_append_getElem hkx,List.map_append,HLX.out,←hy,fD _ _ hkx];rfl);have p0:(0:Int)≤(k:Int):=by omega
    have p1:(k:Int)<(n:Int):=by omega
    clear hy hkx hsm hyv
    go_wp2_with fail
    refine (HNU.out _).mono ?_
    rintro e w5 ⟨rfl,rfl⟩
    go_wp2_with (at_builtin;refine aO rfl _ _ 27 3 (.int .i64 0) 8 rfl Tryz.underlying27 Tryz.bW rfl MP.out rfl (.int .i64 (bI y)) rfl rfl (by omega) (by simp only[maxLen];omega) ?_;intro b' c' w5 hs;have h6:=At.MN (M:=M2) (enc:=vI) (x:=bI y) fP.out LU.out hs;have H6:=zH h6;clear hs h6)
    go_roundg (n-(k+1))
    case measure=>have:=hg.out;omega
    case rel=>exact⟨k+1,⟨some b',c',l.xs++[bI y]⟩,rfl,by go_num,by omega,zH HX.out.symm,rfl,H6.out⟩
   ·obtain rfl:k=n:=by omega
    have e2:decide ((k:Int)<(k:Int))=false:=by simp
    have hlx:l.xs=li.xs.map bI:=by rw[HLX.out,List.take_of_length_le (by rw[HN.out];exact Nat.le_refl _)]
    have alk:=zH hlx;clear hlx hg HLX H4
    go_upto_region 9 with fail
    obtain⟨nl,hnl⟩:∃ nl,M2.learned.xs.length=nl:=⟨_,rfl⟩;have c18:=H5.out.nC;have t18:=H5.out.Uw;rw[hnl] at c18 t18
    have hnlb:nl≤900000:=by
     have h9:(M2.learned.xs.map (·.xs))=S2.learned:=congrArg SM.learned Hy.out;rw[←hnl,show M2.learned.xs.length=(M2.learned.xs.map (·.xs)).length by rw[List.length_map],h9,aem.out];show S1.learned.length≤_;rw[HG5.out.2.1];exact fA.out.learned
    have ahc:=zH t18;have vR:=zH hnl;have Ie:=zH (show l.v=.slice (l.a.map fun b=>⟨b,0,none⟩) k l.c by unfold Fl.v;rw[LU.out]);have fP:=zH H5.out.bA;clear t18 hnl
    go_upto_region 10 with (at_builtin;refine aO rfl _ _ 37 27 (.slice none 0 0) 24 rfl Tryz.underlying37 Tryz.jB rfl ahc.out rfl (.slice (l.a.map fun b=>⟨b,0,none⟩) k l.c) rfl rfl (by omega) (by simp only[maxLen];omega) ?_;intro b' c' w5 hs;have h6:=At.C8 (M:=M2) (r:=l) fP.out vR.out (Ie.out▸hs);have H6:=zH h6;clear hs h6;obtain⟨c7,f7⟩:=H6.out.1)
    have h7:=H6.out.2;clear H6 c7 f7 c18 ahc Ie H5 fP;revert h7;generalize w5.setCell ⟨p,18,none⟩ (.slice (some ⟨b',0,none⟩) (nl+1) c')=w6;intro h7;obtain⟨M3,zJ⟩:∃ M3,M2.fq ⟨some b',c',M2.learned.xs++[l]⟩=M3:=⟨_,rfl⟩;obtain⟨S3,hS3⟩:∃ S3:SM,S3={ S1 with words:=S1.words+(k+2),learned:=S1.learned++[li.xs.map bI] }:=⟨_,rfl⟩
    have hs3:MM.sv M3=S3:=by
     rw[←zJ,hS3,←alk.out]
     have key:∀ X:SM,MM.sv M2=X→MM.sv (M2.fq ⟨some b',c',M2.learned.xs++[l]⟩)=({ X with learned:=X.learned++[l.xs] }:SM):=fun X e=>by
      rw[←e];show ({ MM.sv M2 with learned:=(M2.learned.xs++[l]).map (·.xs) }:SM)={ MM.sv M2 with learned:=M2.learned.xs.map (·.xs)++[l.xs] };rw[List.map_append];rfl
     rw[key S2 Hy.out,aem.out]
    rw[zJ] at h7;have H7:=zH h7;have Tv:=zH hs3;have aen:=zH hS3;have alo:=zH (show M3.learned.xs.length=nl+1 by rw[←zJ];show (M2.learned.xs++[l]).length=_;rw[List.length_append,vR.out];rfl);clear h7 hs3 hS3 zJ Hy vR aem;have k0:=(H7.out.cu 0).1;have k1:=(H7.out.cu 1).1;simp only[List.getElem?_cons_zero,List.getElem?_cons_succ] at k0 k1;have hfr:At B w0 w6.drew p M3 (star (fr.hp 3 vI) (star (pt r0 129 [.slice (some ⟨bl,0,none⟩) k li.c,.slice fa m fr.c,.int .i64 jo]) (star (li.hp 98 vL) F))):=((H7.out.drewN 1).frame (by ac_rfl))
    have hstp:=Mv (M:=M3) fr hfr fA.out.f0 fA.out.fl (by
     have h9:(M3.steps.xs.map (·.xs))=S3.steps:=congrArg SM.steps Tv.out;rw[show M3.steps.xs.length=(M3.steps.xs.map (·.xs)).length by rw[List.length_map],h9,aen.out];show S1.steps.length≤_
     rw[HG5.out.2.2.1];exact fA.out.steps)
    rw[HFV.out,Tv.out] at hstp;obtain⟨x,hx⟩:∃ x,(S3.step fr.xs).2=x:=⟨_,rfl⟩;rw[hx] at hstp;have ahd:=zH hstp;have HX:=zH hx;clear hfr hstp hx;refine dn 11 (fun V:World=>V.cell? ⟨r0,0,none⟩=some (.slice (some ⟨bl,0,none⟩) k li.c)∧V.cell? ⟨r0,1,none⟩=some (.slice fa m fr.c)) (by kernel_rfl) ?_;have bB:(fun V:World=>V.cell? ⟨r0,0,none⟩=some (.slice (some ⟨bl,0,none⟩) k li.c)∧V.cell? ⟨r0,1,none⟩=some (.slice fa m fr.c)) w6.drew:=⟨k0,k1⟩;refine ay (i:=0) (v:=?v1) rfl (by kernel_rfl) (by kernel_rfl) (by kernel_rfl) (by kernel_rfl) (fun _ _ _ h=>h) rfl ?hy1 bB ?_
    case hy1 =>
     intro V aF
     try dsimp only at aF
     first | (obtain⟨aS,aT,cK⟩:=aF) | (obtain⟨aS,aT⟩:=aF) | skip
     go_simp
     try with_reducible rfl
    try simp only[Act.put,List.setIfInBounds_toArray,List.set_cons_zero,List.set_cons_succ]
    refine ay (i:=1) (v:=?v2) rfl (by kernel_rfl) (by kernel_rfl) (by kernel_rfl) (by kernel_rfl) (fun _ _ _ h=>h) rfl ?hy2 bB ?_
    case hy2 =>
     intro V aF
     try dsimp only at aF
     first | (obtain⟨aS,aT,cK⟩:=aF) | (obtain⟨aS,aT⟩:=aF) | skip
     go_simp
     try with_reducible rfl
    try simp only[Act.put,List.setIfInBounds_toArray,List.set_cons_zero,List.set_cons_succ]
    refine ay (i:=2) (v:=?v3) rfl (by kernel_rfl) (by kernel_rfl) (by kernel_rfl) (by kernel_rfl) (fun _ _ _ h=>h) rfl ?hy3 bB ?_
    case hy3 =>
     intro V aF
     try dsimp only at aF
     first | (obtain⟨aS,aT,cK⟩:=aF) | (obtain⟨aS,aT⟩:=aF) | skip
     go_simp
     try with_reducible rfl
    try simp only[Act.put,List.setIfInBounds_toArray,List.set_cons_zero,List.set_cons_succ]
    refine ay (i:=3) (v:=?v4) rfl (by kernel_rfl) (by kernel_rfl) (by kernel_rfl) (by kernel_rfl) (fun _ _ _ h=>h) rfl ?hy4 bB ?_
    case hy4 =>
     intro V aF
     try dsimp only at aF
     first | (obtain⟨aS,aT,cK⟩:=aF) | (obtain⟨aS,aT⟩:=aF) | skip
     go_simp
     try with_reducible rfl
    try simp only[Act.put,List.setIfInBounds_toArray,List.set_cons_zero,List.set_cons_succ]
    refine ay (i:=4) (v:=?v5) rfl (by kernel_rfl) (by kernel_rfl) (by kernel_rfl) (by kernel_rfl) (fun _ _ _ h=>h) rfl ?Qx bB ?_
    case Qx =>
     intro V aF
     try dsimp only at aF
     first | (obtain⟨aS,aT,cK⟩:=aF) | (obtain⟨aS,aT⟩:=aF) | skip
     go_simp
     try with_reducible rfl
    try simp only[Act.put,List.setIfInBounds_toArray,List.set_cons_zero,List.set_cons_succ]
    refine ay (i:=5) (v:=?v6) rfl (by kernel_rfl) (by kernel_rfl) (by kernel_rfl) (by kernel_rfl) (fun _ _ _ h=>h) rfl ?Ih bB ?_
    case Ih =>
     intro V aF
     try dsimp only at aF
     first | (obtain⟨aS,aT,cK⟩:=aF) | (obtain⟨aS,aT⟩:=aF) | skip
     go_simp
     try with_reducible rfl
    try simp only[Act.put,List.setIfInBounds_toArray,List.set_cons_zero,List.set_cons_succ]
    refine ay (i:=6) (v:=?v7) rfl (by kernel_rfl) (by kernel_rfl) (by kernel_rfl) (by kernel_rfl) (fun _ _ _ h=>h) rfl ?UL bB ?_
    case UL =>
     intro V aF
     try dsimp only at aF
     first | (obtain⟨aS,aT,cK⟩:=aF) | (obtain⟨aS,aT⟩:=aF) | skip
     go_simp
     try with_reducible rfl
    try simp only[Act.put,List.setIfInBounds_toArray,List.set_cons_zero,List.set_cons_succ]
    refine ay (i:=7) (v:=?v8) rfl (by kernel_rfl) (by kernel_rfl) (by kernel_rfl) (by kernel_rfl) (fun _ _ _ h=>h) rfl ?WT bB ?_
    case WT =>
     intro V aF
     try dsimp only at aF
     first | (obtain⟨aS,aT,cK⟩:=aF) | (obtain⟨aS,aT⟩:=aF) | skip
     go_simp
     try with_reducible rfl
    try simp only[Act.put,List.setIfInBounds_toArray,List.set_cons_zero,List.set_cons_succ]
    refine bf (i:=8) (by kernel_rfl) rfl (fun K hK=>?_)
    go_simp
    refine ahd.out.mono ?_
    rintro e w7 ⟨rfl,s7,h8,h9⟩
    obtain⟨M4,hM4⟩:∃ M4,M3.Dp s7=M4:=⟨_,rfl⟩;rw[hM4] at h8 h9;obtain⟨S4,hS4⟩:∃ S4,(S3.step fr.xs).1=S4:=⟨_,rfl⟩;rw[hS4] at h9;have Bv:=Mw S3 fr.xs;rw[hS4] at Bv;have H8:=zH h8;have tY:=zH h9;have alp:=zH hS4
    have Wi:=zH (show S4.cls=S1.cls∧S4.aj=S1.aj∧S4.value=S1.value∧S4.level=S1.level∧S4.reason=S1.reason∧S4.trail=S1.trail∧S4.learned.length=nl+1∧S4.hl=S1.hl∧S4.place=S1.place∧S4.met=S1.met by
     have hl3:S3.learned.length=nl+1:=by
      have h11:(M3.learned.xs.map (·.xs))=S3.learned:=congrArg SM.learned Tv.out;rw[←h11,List.length_map];exact alo.out
     rw[Bv.2.2]
     refine⟨?_,?_,?_,?_,?_,?_,hl3,?_,?_,?_⟩ <;> (rw[aen.out];rfl))
    clear h8 h9 hS4 hM4 Bv ahd;have k2:=(H8.out.cu 0).1;have k3:=(H8.out.cu 1).1;simp only[List.getElem?_cons_zero,List.getElem?_cons_succ] at k2 k3;refine hK _ _ ⟨k2,k3⟩ ?_;clear hK K
    try simp only[Act.put,List.setIfInBounds_toArray,List.set_cons_zero,List.set_cons_succ]
    refine bf (i:=9) (by kernel_rfl) rfl (fun K hK=>?_)
    go_simp
    refine hK _ _ (⟨k2,k3⟩) ?_;clear hK K
    try simp only[Act.put,List.setIfInBounds_toArray,List.set_cons_zero,List.set_cons_succ]
    refine bf (i:=10) (by kernel_rfl) rfl (fun K hK=>?_)
    go_simp
    have alq:M4.cls.xs.length≤900000:=by
     have h9:(M4.cls.xs.map fun x=>(x.1.xs,x.2))=S4.cls:=congrArg SM.cls tY.out;rw[show M4.cls.xs.length=(M4.cls.xs.map fun x=>(x.1.xs,x.2)).length by rw[List.length_map],h9,Wi.out.1,HG5.out.2.2.2.1];exact fA.out.cls
    have hw4:(M4.aj.xs.map (·.xs))=M.sv.aj:=by
     have h9:(M4.aj.xs.map (·.xs))=S4.aj:=congrArg SM.aj tY.out;rw[h9,Wi.out.2.1,HG5.out.2.2.2.2]
    have hwl:M4.aj.xs.length=2*M.sv.value.length:=by
     rw[show M4.aj.xs.length=(M4.aj.xs.map (·.xs)).length by rw[List.length_map],hw4];exact fA.out.sz.aj
    have hsm:M.sv.value.length≤100000:=fA.out.hi.hb.small
    have hat:=Fz (M:=M4) li x ((H8.out).frame (show _=star (li.hp 98 vL) (star (pt r0 129 [.slice (some ⟨bl,0,none⟩) k li.c,.slice fa m fr.c,.int .i64 jo]) F) by ac_rfl)) (by omega)
     (fun r hr=>by have h9:=fA.out.rows r.xs (by rw[←hw4];exact List.mem_map.2 ⟨r,hr,rfl⟩);omega) (fun y hy=>by have h9:=fA.out.cv y hy;omega) (by omega) (by rw[HN.out];omega)
    obtain⟨nc,hnc⟩:∃ nc,M4.cls.xs.length=nc:=⟨_,rfl⟩;rw[Ig.out,hnc] at hat
    have HAT:=zH hat
    have Tt:=zH hnc;clear hat hnc alq hw4 hwl hsm;refine HAT.out.mono ?_
    rintro e w8 ⟨rfl,M5,h10,h11,h12⟩
    have DJ:=zH h10;have zO:=zH h11;have HC5:=zH h12;clear h10 h11 h12 HAT;have k4:=(DJ.out.cu 0).1;have k5:=(DJ.out.cu 1).1;simp only[List.getElem?_cons_zero,List.getElem?_cons_succ] at k4 k5;refine hK _ _ ⟨k4,k5⟩ ?_;clear hK K
    try simp only[Act.put,List.setIfInBounds_toArray,List.set_cons_zero,List.set_cons_succ]
    refine iy (by kernel_rfl) rfl (by kernel_rfl) (fun K hK=>?_)
    go_simp
    refine hK _ _ ?_;clear hK K;clear bB k0 k1 k2 k3 k5
    have hkeep:M.sv.keep li.xs fr.xs jo=(if ((MM.sv M5).bX (gn li.xs 0) nc).learned.length % 128=0 then ((MM.sv M5).bX (gn li.xs 0) nc).lS else (MM.sv M5).bX (gn li.xs 0) nc):=by
     unfold SM.keep;rw[yw.out,HN.out,←aen.out];dsimp only;rw[HX.out,alp.out,show S4.cls.length=nc by rw[←Tt.out,show M4.cls.xs.length=(M4.cls.xs.map fun x=>(x.1.xs,x.2)).length by rw[List.length_map],show (M4.cls.xs.map fun x=>(x.1.xs,x.2))=S4.cls from congrArg SM.cls tY.out],zO.out,tY.out]
    have Tw:=zH hkeep;clear hkeep;have hr5:M5.cls.xs[nc]?=some (li,x):=by rw[HC5.out,←Tt.out];simp
    obtain⟨y,hy⟩:∃ y,gn li.xs 0=y:=⟨_,rfl⟩;have hl0:0<li.xs.length:=by rw[HN.out];exact hn0
    obtain⟨e5,_⟩:=DJ.out.iE hr5 KF.out (j:=0) (x:=y) (by rw[←hy];exact aM _ _ hl0)
    have hvl:M5.value.xs=S1.value:=by
     have h9:M5.value.xs=((MM.sv M4).attach li.xs x).value:=congrArg SM.value zO.out;rw[h9,zL,tY.out,Wi.out.2.2.1]
    have hll:M5.level.xs=S1.level:=by
     have h9:M5.level.xs=((MM.sv M4).attach li.xs x).level:=congrArg SM.level zO.out;rw[h9,zM,tY.out,Wi.out.2.2.2.1]
    have hrl:M5.reason.xs=S1.reason:=by
     have h9:M5.reason.xs=((MM.sv M4).attach li.xs x).reason:=congrArg SM.reason zO.out;rw[h9,wK,tY.out,Wi.out.2.2.2.2.1]
    have htl:M5.trail.xs=S1.trail:=by
     have h9:M5.trail.xs=((MM.sv M4).attach li.xs x).trail:=congrArg SM.trail zO.out;rw[h9,zN,tY.out,Wi.out.2.2.2.2.2.1]
    have hnv:S1.value.length=M.sv.value.length:=HG3.out;have hsm:M.sv.value.length≤100000:=fA.out.hi.hb.small;have hyv:y/2<M.sv.value.length:=by rw[←hy];exact fA.out.cv _ (aU _ _ hl0)
    have mV:=zH (vP (M:=M5) y nc DJ.out (by rw[hvl,hnv];exact hyv) (by rw[hll,hvl];exact HG2.out.level) (by rw[hrl,hvl];exact HG2.out.reason) (by rw[hvl,hnv];exact hsm) (by rw[htl];have h9:=HG4.out;have h8:=fA.out.trl;omega));rw[hy] at Tw;have Qv:=zH hvl;have FB:=zH (show S1.value.length=M.sv.value.length from hnv);have n0:(0:Int)<(k:Int):=by omega
    clear hr5 hy hl0 hvl hll hrl htl hnv hsm hyv
    go_wp2_with fail
    refine mV.out.mono ?_
    rintro e w9 ⟨rfl,z1,z2,z3,z4,FE,QX⟩
    have hn5:M5.learned.xs.length=nl+1:=by
     have h9:(M5.learned.xs.map (·.xs))=((MM.sv M4).attach li.xs x).learned:=congrArg SM.learned zO.out;rw[show M5.learned.xs.length=(M5.learned.xs.map (·.xs)).length by rw[List.length_map],h9,FH,tY.out];exact Wi.out.2.2.2.2.2.2.1
    obtain⟨M6,hM6⟩:∃ M6,M5.Cn z1 z2 z3 z4=M6:=⟨_,rfl⟩;have hn6:M6.learned.xs.length=nl+1:=by rw[←hM6];exact hn5
    rw[hM6] at FE QX;have Wo:=zH FE;have aeo:=zH QX;have c18:=FE.nC;rw[hn6] at c18
    have hln:((MM.sv M5).bX y nc).learned.length=nl+1:=by
     rw[←QX];show (M6.learned.xs.map (·.xs)).length=nl+1;rw[List.length_map];exact hn6
    rw[hln] at Tw;clear FE QX hM6 mV k4 e5 hn5 hn6 hln
    by_cases h128:(nl+1) % 128=0
    ·have e6:decide ((((nl+1) % 128:Nat):Int)=0)=true:=by simp;omega
     have LV:HB (MM.sv M6):=by
      rw[aeo.out];refine Jb.out.hb.congr ?_ ?_ ?_ ?_
      ·show ((MM.sv M5).value.set _ _).length=_;rw[List.length_set];exact congrArg List.length Qv.out
      ·show (MM.sv M5).hl=_;rw[zO.out,U3,tY.out];exact Wi.out.2.2.2.2.2.2.2.1
      ·show (MM.sv M5).place=_;rw[zO.out,KO,tY.out];exact Wi.out.2.2.2.2.2.2.2.2.1
      ·show (MM.sv M5).met=_;rw[zO.out,QY,tY.out];exact Wi.out.2.2.2.2.2.2.2.2.2
     have HFD:=zH (WJ Wo.out LV);have HKP:=zH (show M.sv.keep li.xs fr.xs jo=(MM.sv M6).lS by rw[Tw.out,if_pos h128,aeo.out]);clear LV
     go_wp2_with fail
     refine HFD.out.mono ?_
     rintro e w10 ⟨rfl,v1,v2,v3,h20,h21⟩
     have H20:=zH h20;have alu:=zH h21;clear h20 h21 HFD
     go_wp2
     go_end0
     exact⟨rfl,_,H20.out.iL,by rw[HKP.out];exact alu.out⟩
    ·have e6:decide ((((nl+1) % 128:Nat):Int)=0)=false:=by simp;omega
     have HKP:=zH (show M.sv.keep li.xs fr.xs jo=MM.sv M6 by rw[Tw.out,if_neg h128,aeo.out])
     go_wp2
     go_end0
     exact⟨rfl,_,Wo.out.iL,HKP.out.symm⟩
end
end Go.Proofs.YthbbmdnfkkffjaaGreat
namespace Go.Proofs.YthbbmdnfkkffjaaGreat
open Go.Proofs.au Go.Proofs.aA
theorem bT (l:Nat):negL l/2=l/2:=by unfold negL;split <;> omega
theorem Ji (l:Nat):negL (negL l)=l:=by unfold negL;split <;> split <;> omega
theorem abu (l:Nat):negL l≠l:=by unfold negL;split <;> omega
theorem MV {l:Nat} (h:2≤l):2≤negL l:=by unfold negL;split <;> omega
theorem uN (l:Nat):negL l % 2=1↔¬ l % 2=1:=by unfold negL;split <;> omega
theorem Bw {l m:Nat} (h:l/2=m/2):l=m∨l=negL m:=by unfold negL;split <;> omega
theorem rR (S:SM) (l:Nat):S.bF (negL l)=-S.bF l:=by
 unfold SM.bF;rw[bT]
 by_cases h:l % 2=1
 ·rw[if_pos h,if_neg (fun k=>(uN l).1 k h)];omega
 ·rw[if_neg h,if_pos ((uN l).2 h)]
theorem gX {S:SM} {l:Nat}:S.bF l=0↔gi S.value (l/2)=0:=by unfold SM.bF;split <;> omega
theorem mW {l:List Int} {i j:Nat} {v:Int} (h:i<l.length):gi (l.set i v) j=if j=i then v else gi l j:=by
 by_cases e:j=i
 ·subst e;simp[gi,List.getD_eq_getElem?_getD,h]
 ·rw[if_neg e];simp[gi,List.getD_eq_getElem?_getD,List.getElem?_set_ne (Ne.symm e)]
theorem rT {l:List Int} {i:Nat} (h:l.length≤i):gi l i=0:=by simp[gi,List.getD_eq_getElem?_getD,List.getElem?_eq_none h]
theorem ajA {l:List Nat} {i:Nat} (h:l.length≤i):gn l i=0:=by simp[gn,List.getD_eq_getElem?_getD,List.getElem?_eq_none h]
theorem jO {l:List Nat} {x:Nat} (h:x∈l):∃ i,i<l.length∧gn l i=x:=by
 obtain⟨i,hi,e⟩:=List.getElem_of_mem h;exact⟨i,hi,by rw[fD l i hi,e]⟩
theorem vS {l:List Nat} {x:Nat}:gn (l++[x]) l.length=x:=by rw[rO (Nat.le_refl _)];simp[gn]
theorem Da.cases {x:Int} (h:Da x):x=1∨x=-1∨x=0:=h
theorem Tx {S:SM} (h:∀ x∈S.value,Da x) (v:Nat):Da (gi S.value v):=by
 by_cases hv:v<S.value.length
 ·exact h _ (by rw[dh _ _ hv];exact List.getElem_mem hv)
 ·rw[rT (by omega)];exact .inr (.inr rfl)
theorem rU {S:SM} (h:∀ x∈S.value,Da x) (l:Nat):S.bF l=1∨S.bF l=-1∨S.bF l=0:=by
 have:=(Tx h (l/2)).cases;unfold SM.bF;split <;> omega
theorem lY {S:SM} {l m:Nat} {r:Int} (h:l/2<S.value.length):(S.bX l r).bF m=if m=l then 1 else if m=negL l then -1 else S.bF m:=by
 unfold SM.bF SM.bX;simp only;rw[mW h]
 by_cases e:m/2=l/2
 ·rw[if_pos e];rcases Bw e with rfl | rfl
  ·rw[if_pos rfl];split <;> rfl
  ·rw[if_neg (abu l),if_pos rfl];have:=uN l
   split <;> split <;> first | rfl | (exfalso;omega)
 ·have e1:m≠l:=fun k=>e (by rw[k]);have e2:m≠negL l:=fun k=>e (by rw[k,bT]);rw[if_neg e,if_neg e1,if_neg e2]
def dM (S:SM) (i:Nat):Nat:=S.ends.countP (fun e=>decide (e≤i))
def Why (S:SM) (i:Nat):Prop :=
 (gi S.reason (gn S.trail i/2)=-1∧i∈S.ends) ∨
 ∃ r:Nat,gi S.reason (gn S.trail i/2)=r∧r<S.cls.length∧gn S.trail i∈S.cl r∧∀ k∈S.cl r,k≠gn S.trail i→∃ j,j<i∧gn S.trail j=negL k
structure nR (S:SM):Prop where
 sz:Sz S
 vals:∀ x∈S.value,Da x
 two:∀ i,i<S.trail.length→2≤gn S.trail i
 lt:∀ i,i<S.trail.length→gn S.trail i/2<S.value.length
 is:∀ i,i<S.trail.length→S.bF (gn S.trail i)=1
 jo:∀ i,i<S.trail.length→gn S.level (gn S.trail i/2)=dM S i
 inj:∀ i j,i<S.trail.length→j<S.trail.length→gn S.trail i/2=gn S.trail j/2→i=j
 all:∀ v,v<S.value.length→gi S.value v≠0→∃ i,i<S.trail.length∧gn S.trail i/2=v
 ends:∀ e∈S.ends,e≤S.trail.length
 mono:S.ends.Pairwise (·≤·)
 why:∀ i,i<S.trail.length→Why S i
theorem nR.KP {S:SM} (h:nR S) {l:Nat} (hl:S.bF l=1):∃ i,i<S.trail.length∧gn S.trail i=l:=by
 have hv:gi S.value (l/2)≠0:=fun e=>by rw[gX.2 e] at hl;cases hl
 have hlt:l/2<S.value.length:=by
  apply Classical.byContradiction;intro k;exact hv (rT (by omega))
 obtain⟨i,hi,e⟩:=h.all _ hlt hv;rcases Bw e with e | e
 ·exact⟨i,hi,e⟩
 ·have:=h.is i hi;rw[e,rR,hl] at this
  cases this
theorem nR.jS {S:SM} (h:nR S) {l:Nat} (hl:S.bF l=-1):∃ i,i<S.trail.length∧gn S.trail i=negL l :=
 h.KP (by rw[rR,hl];rfl)
theorem abv {S:SM} (h:∀ e∈S.ends,e≤S.trail.length):dM S S.trail.length=S.ends.length:=by
 unfold dM;rw[List.countP_eq_length];intro a ha;simpa using h a ha
theorem nT (S:SM) (i:Nat):dM S i≤S.ends.length:=List.countP_le_length
theorem FI (S:SM) {i j:Nat} (h:i≤j):dM S i≤dM S j:=by
 unfold dM;apply List.countP_mono_left;intro x _ hx;simp only[decide_eq_true_eq] at hx ⊢;omega
theorem Il {l:List Nat} {i j:Nat} (h:i∈l) (hj:j<i):l.countP (fun e=>decide (e≤j))<l.countP (fun e=>decide (e≤i)):=by
 induction l with
 | nil=>cases h
 | cons a r ih =>
  rw[List.countP_cons,List.countP_cons]
  have hm:r.countP (fun e=>decide (e≤j))≤r.countP (fun e=>decide (e≤i)):=by
   apply List.countP_mono_left;intro x _ hx;simp only[decide_eq_true_eq] at hx ⊢;omega
  rcases List.mem_cons.1 h with e | h
  ·subst e;rw[if_neg (by simp;omega),if_pos (by simp)];omega
  ·have:=ih h
   split <;> split <;> first | omega | (rename_i a1 a2;simp only[decide_eq_true_eq] at a1 a2;omega)
theorem QZ {S:SM} {i j:Nat} (h:i∈S.ends) (hj:j<i):dM S j<dM S i:=Il h hj
theorem abw {S:SM} (h:Sz S) (l:Nat) (r:Int):Sz (S.bX l r):=by
 unfold SM.bX;exact⟨by simp[h.level],by simp[h.reason],by simp[h.phase],by simp[h.occurs],by simp[h.units],by simp[h.aj]⟩
theorem Q0 (S:SM) (l:Nat) (r:Int):(S.bX l r).trail=S.trail++[l]:=rfl
theorem jX {S:SM} {l:Nat} {r:Int} {i:Nat} (h:i<S.trail.length):gn (S.bX l r).trail i=gn S.trail i:=dX h
theorem lZ {S:SM} {l:Nat} {r:Int}:gn (S.bX l r).trail S.trail.length=l:=vS
theorem nR.bX {S:SM} (h:nR S) {l:Nat} {r:Int} (h2:2≤l) (hl:l/2<S.value.length) (h0:S.bF l=0)
  (hr:(r=-1∧S.trail.length∈S.ends)∨∃ k:Nat,r=k∧k<S.cls.length∧l∈S.cl k∧∀ x∈S.cl k,x≠l→S.bF x=-1):nR (S.bX l r):=by
 have hn:∀ i,i<S.trail.length→gn S.trail i/2≠l/2:=fun i hi e=>by
  have h1:=h.is i hi;have hz:=gX.1 h0;rw[←e] at hz;rw[gX.2 hz] at h1
  cases h1
 have hlen:(S.bX l r).trail.length=S.trail.length+1:=by rw[Q0];simp
 have hcase:∀ i,i<(S.bX l r).trail.length→i<S.trail.length∨i=S.trail.length:=fun i hi=>by omega
 have hvl:(S.bX l r).value.length=S.value.length:=by unfold SM.bX;simp
 refine⟨abw h.sz l r,?_,?_,?_,?_,?_,?_,?_,?_,h.mono,?_⟩
 ·intro x hx;rcases List.mem_or_eq_of_mem_set hx with hx | rfl
  ·exact h.vals x hx
  ·split
   ·exact .inr (.inl rfl)
   ·exact .inl rfl
 ·intro i hi;rcases hcase i hi with hi | rfl
  ·rw[jX hi];exact h.two i hi
  ·rw[lZ];exact h2
 ·intro i hi;rw[hvl];rcases hcase i hi with hi | rfl
  ·rw[jX hi];exact h.lt i hi
  ·rw[lZ];exact hl
 ·intro i hi;rw[lY hl];rcases hcase i hi with hi | rfl
  ·rw[jX hi,if_neg (show ¬ gn S.trail i=l from fun e=>hn i hi (by rw[e])),if_neg (show ¬ gn S.trail i=negL l from fun e=>hn i hi (by rw[e,bT]))];exact h.is i hi
  ·rw[lZ,if_pos rfl]
 ·intro i hi;have hll:l/2<S.level.length:=by rw[h.sz.level];exact hl
  show gn (S.level.set (l/2) S.ends.length) _=dM S i;rw[gZ hll];rcases hcase i hi with hi | rfl
  ·rw[jX hi,if_neg (hn i hi)];exact h.jo i hi
  ·rw[lZ,if_pos rfl];exact (abv h.ends).symm
 ·intro i j hi hj e;rcases hcase i hi with hi | rfl <;> rcases hcase j hj with hj | rfl
  ·rw[jX hi,jX hj] at e;exact h.inj i j hi hj e
  ·rw[jX hi,lZ] at e;exact absurd e (hn i hi)
  ·rw[lZ,jX hj] at e;exact absurd e.symm (hn j hj)
  ·rfl
 ·intro v hv h1;rw[hvl] at hv;change gi (S.value.set (l/2) _) v≠0 at h1;rw[mW hl] at h1
  by_cases e:v=l/2
  ·exact⟨S.trail.length,by omega,by rw[lZ,e]⟩
  ·rw[if_neg e] at h1;obtain⟨i,hi,k⟩:=h.all v hv h1;exact⟨i,by omega,by rw[jX hi];exact k⟩
 ·intro e he;have:=h.ends e he;omega
 ·intro i hi;have hrl:l/2<S.reason.length:=by rw[h.sz.reason];exact hl
  rcases hcase i hi with hi | rfl
  ·unfold Why;rw[jX hi]
   have e1:gi (S.bX l r).reason (gn S.trail i/2)=gi S.reason (gn S.trail i/2):=by
    show gi (S.reason.set (l/2) r) _=_;rw[mW hrl,if_neg (hn i hi)]
   rw[e1];rcases h.why i hi with a | ⟨k,a,b,c,d⟩
   ·exact .inl a
   ·exact .inr ⟨k,a,b,c,fun x hx hne=>by
     obtain⟨j,hj,e⟩:=d x hx hne
     exact⟨j,hj,by rw[jX (by omega)];exact e⟩⟩
  ·unfold Why;rw[lZ]
   have e1:gi (S.bX l r).reason (l/2)=r:=by
    show gi (S.reason.set (l/2) r) _=_;rw[mW hrl,if_pos rfl]
   rw[e1];rcases hr with a | ⟨k,a,b,c,d⟩
   ·exact .inl a
   ·exact .inr ⟨k,a,b,c,fun x hx hne=>by
     obtain⟨j,hj,e⟩:=h.jS (d x hx hne)
     exact⟨j,hj,by rw[jX hj];exact e⟩⟩
end Go.Proofs.YthbbmdnfkkffjaaGreat

/-
  Parts of the proof, joined by program: Slv.
-/
import Derived.Test.YthbbmdnfkkffjaaGreatY26
import Derived.Test.YthbbmdnfkkffjaaGreatY01
import Derived.Lib.Hide
set_option maxHeartbeats 8000000
set_option maxRecDepth 100000
namespace Go.Proofs.YthbbmdnfkkffjaaGreat
open Go.RowKit Go.Proofs.aC Go.Proofs.au Go.Proofs.aA
structure KX (S:SM):Prop where
 hi:bG S
 sz:Sz S
 tr:∀ l∈S.trail,l/2<S.value.length
 trl:S.trail.length≤900000
 el:S.ends.length≤900000
 en:0<S.ends.length→gn S.ends 0≤S.trail.length
def gq (S:SM) (assume:List Int):SM:=assume.foldl (fun S a=>S.grow (aJ a/2)) S
def qY:SM→List Int→Prop
 | _,[]=>True
 | S,a :: r=>qw (aJ a/2+1-S.value.length) S∧qY (S.grow (aJ a/2)) r
def anew (S:SM) (u:Nat):SM:=if u≤S.learned.length then S.back 0 else S
def sG (S:SM) (u:Nat):Nat:=if u≤S.learned.length then u+u/2 else u
def jT (assume:List Int):Nat→SM→Nat→Prop
 | 0,_,_=>False
 | f+1,S,u=>Rc S∧u≤1000000∧S.follow.1.learned.length≤1000000 ∧
  (S.follow.2=-1→(u≤S.follow.1.learned.length→KX S.follow.1)∧Ju assume (assume.length-(anew S.follow.1 u).ends.length) (anew S.follow.1 u)∧(∀ a∈assume,aJ a/2<(anew S.follow.1 u).value.length) ∧
   (((anew S.follow.1 u).iV assume).2=true→jT assume f ((anew S.follow.1 u).iV assume).1 (sG S.follow.1 u)) ∧
   (((anew S.follow.1 u).iV assume).2=false→KX ((anew S.follow.1 u).iV assume).1)) ∧
  (S.follow.2≠-1→(∃ Z rk,aey S.follow.1 S.follow.2.toNat Z rk)∧((S.follow.1.kr S.follow.2.toNat).2.1=true→jT assume f (S.follow.1.kr S.follow.2.toNat).1 u) ∧
   ((S.follow.1.kr S.follow.2.toNat).2.1=false→KX (S.follow.1.kr S.follow.2.toNat).1))
theorem qC (assume:List Int) (f:Nat) (S:SM) (u:Nat):SM.gI assume (f+1) S u =
  if S.follow.2=-1 then (if ((anew S.follow.1 u).iV assume).2 then SM.gI assume f ((anew S.follow.1 u).iV assume).1 (sG S.follow.1 u) else some (((anew S.follow.1 u).iV assume).1,0))
  else if (S.follow.1.kr S.follow.2.toNat).2.1 then SM.gI assume f (S.follow.1.kr S.follow.2.toNat).1 u else some ((S.follow.1.kr S.follow.2.toNat).1,(S.follow.1.kr S.follow.2.toNat).2.2):=rfl
theorem sH (assume:List Int):∀ (f:Nat) (S:SM) (u:Nat),jT assume f S u→∃ V,SM.gI assume f S u=some V
 | 0,_,_,h=>h.elim
 | f+1,S,u,h=>by
  rw[qC];obtain⟨_,_,_,h1,h2⟩:=h
  split
  ·rename_i hf;obtain⟨_,_,_,h3,_⟩:=h1 hf
   split
   ·rename_i hd;exact sH assume f _ _ (h3 hd)
   ·exact⟨_,rfl⟩
  ·rename_i hf;obtain⟨_,h3,_⟩:=h2 hf
   split
   ·rename_i hd;exact sH assume f _ _ (h3 hd)
   ·exact⟨_,rfl⟩
def je (S:SM):SM:={ S with learned:=[],core:=[],last:=[],model:=[],told:=0 }
theorem Nr (S:SM) (assume:List Int):S.reset assume={ (je (gq S assume)).back 0 with next:=0 }:=rfl
structure BI (S:SM) (assume:List Int):Prop where
 len:assume.length≤900000
 lits:∀ a∈assume,a.natAbs≤65536
 gr:qY S assume
 bk:KX (je (gq S assume))
 fl:Rc (S.reset assume)
 en:(S.reset assume).follow.2≠-1→∃ Z rk,Nj (S.reset assume).follow.1 (S.reset assume).follow.2.toNat Z rk
 st:(S.reset assume).follow.2=-1→pW ((S.reset assume).follow.1.given.length-(S.reset assume).follow.1.fresh) (S.reset assume).follow.1∧(S.reset assume).follow.1.given.length≤1000000∧(S.reset assume).follow.1.fresh≤(S.reset assume).follow.1.given.length
 se:(S.reset assume).follow.2=-1→(S.reset assume).follow.1.start.2=true→jT assume (SM.qI (S.reset assume).follow.1.start.1 assume) (S.reset assume).follow.1.start.1 64
section
variable {B:Nat} {w0 w:World} {p:Nat} {M:MM} {F:HP}
theorem Jz (h:At B w0 w p M F) (hok:KX M.sv) :
  Calls Tryz.prog 69 #[.pointer (some ⟨p,0,none⟩),.int .i64 0] w fun e w'=>e=.returned (.tuple #[])∧∃ M',At B w0 w' p M' F∧M'.sv=M.sv.back 0:=by
 refine (MB 0 h hok.hi hok.sz hok.tr (by have:=hok.trl;show M.sv.trail.length≤_;omega) (by have:=hok.el;show M.sv.ends.length≤_;omega) hok.en (by omega)).mono ?_
 rintro e w' ⟨h1,_,_,_,_,_,_,_,_,_,h2,h3⟩
 exact⟨h1,_,h2,h3⟩
theorem uU (h:At B w0 w p M F) (hok:KX M.sv) (u:FrameMode) :
  CallsD Tryz.prog 69 #[.pointer (some ⟨p,0,none⟩),.int .i64 0] u w fun e u' w'=>u'=u∧e=.returned (.tuple #[])∧∃ M',At B w0 w' p M' F∧M'.sv=M.sv.back 0:=by
 refine (Qw 0 h hok.hi hok.sz hok.tr (by have:=hok.trl;show M.sv.trail.length≤_;omega) (by have:=hok.el;show M.sv.ends.length≤_;omega) hok.en (by omega) u).mono ?_
 rintro e u' w' ⟨h0,h1,_,_,_,_,_,_,_,_,_,h2,h3⟩
 exact⟨h0,h1,_,h2,h3⟩
theorem Vh (A:Option Addr) (na ca:Nat) (assume:List Int) (h:At B w0 w p M F) (hst:fM B w0 F A na assume) (hok:BI M.sv assume) :
  Calls Tryz.prog 44 #[.pointer (some ⟨p,0,none⟩),.slice A na ca] w fun e w'=>e=.returned (.tuple #[.int .i64 (M.sv.solve assume).2.1,.int .i64 (M.sv.solve assume).2.2])∧∃ M',At B w0 w' p M' F∧M'.sv=(M.sv.solve assume).1:=by
 have hna:assume.length=na:=(At.YD hst h).len;have hnb:na≤900000:=by rw[←hna];exact hok.len
 have H:=zH h;have HST:=zH hst;have TD:=zH hna;have fA:=zH hok;clear h hst hna hok
 go_enter_defers Tryz.func44,Tryz.ntmps44
 go_wp2
 go_loopg [15] na (fun g s15 wr=>∃ (k:Nat) (N:MM),s15=.int .i64 k∧k≤na∧Hid (g=na-k)∧Hid (At B w0 wr p N F)∧Hid (gq N.sv (assume.drop k)=gq M.sv assume∧qY N.sv (assume.drop k)))
 case atStart=>exact⟨0,M,rfl,Nat.zero_le _,rfl,H.out,⟨rfl,fA.out.gr⟩⟩
 case round =>
  obtain⟨k,N,rfl,hkn,hg,H1,HG⟩:=hrel
  by_cases hkl:k<na
  ·have e1:decide ((k:Int)<(na:Int))=true:=by simp;omega
   obtain⟨b,o,rfl,hc⟩:=(At.YD HST.out H1.out).cells (by omega);obtain⟨a,ha⟩:∃ a,gi assume k=a:=⟨_,rfl⟩;have k3:=hc k hkl;rw[ha] at k3;have hkx:k<assume.length:=by rw[TD.out];exact hkl
   have Qa:a∈assume:=by rw[←ha,dh _ _ hkx];exact List.getElem_mem hkx
   have hal:=fA.out.lits a Qa;have hdr:assume.drop k=a :: assume.drop (k+1):=by rw[←ha,dh _ _ hkx];exact List.drop_eq_getElem_cons hkx
   have hg1:=HG.out;rw[hdr] at hg1;obtain⟨g1,g2,g3⟩:=hg1;have hpb:aJ a≤131073:=by unfold aJ;split <;> omega
   have Rl:=zH (fun V=>uK a V (by omega) (by omega));have qQ:=zH (fun V=>pQ (aJ a) V (by omega));have KD:=zH (Fh (aJ a/2) H1.out g2 (by omega));obtain⟨q,hq⟩:∃ q,aJ a/2=q:=⟨_,rfl⟩;obtain⟨l,hl⟩:∃ l,aJ a=l:=⟨_,rfl⟩;have hg4:gq (N.sv.grow (aJ a/2)) (assume.drop (k+1))=gq M.sv assume:=g1;rw[hq] at qQ KD hg4 g3;rw[hl] at Rl qQ;have HG3:=zH g3;have HG4:=zH hg4;have p0:(0:Int)≤(k:Int):=by omega
   have p1:(k:Int)<(na:Int):=by omega
   clear g1 g2 g3 hg4 ha hkx Qa hal hdr hc hpb hq hl HG
   go_wp2_with fail
   refine (Rl.out _).mono ?_
   rintro e w2 ⟨rfl,rfl⟩
   go_wp2_with fail
   refine (qQ.out _).mono ?_
   rintro e w2 ⟨rfl,rfl⟩
   go_wp2_with fail
   refine KD.out.mono ?_
   rintro e w3 ⟨rfl,N3,h3,h4⟩
   have H3:=zH h3;have Hy:=zH h4;clear h3 h4 KD k3
   go_wp2
   go_roundg (na-(k+1))
   case measure=>have:=hg.out;omega
   case rel=>exact⟨k+1,N3,by go_num,by omega,rfl,H3.out,⟨by rw[Hy.out];exact HG4.out,by rw[Hy.out];exact HG3.out⟩⟩
  ·obtain rfl:k=na:=by omega
   have e1:decide ((k:Int)<(k:Int))=false:=by simp
   have hgs:gq M.sv assume=N.sv:=by have h9:=HG.out.1;rw[List.drop_of_length_le (by rw[TD.out];exact Nat.le_refl _)] at h9;exact h9.symm
   have c18:=H1.out.nC;have c22:=H1.out.uw;have c23:=H1.out.uy;have c21:=H1.out.zh;have c24:=H1.out.qm;have f0:=H1.out.fz;have h2:=((((H1.out.Nq).qU).YT).Vg).zk 0;obtain⟨N2,hN2⟩:∃ N2,((((N.fq ⟨none,0,[]⟩).ql ⟨none,0,[]⟩).DY ⟨none,0,[]⟩).kH ⟨none,0,[]⟩).uq 0=N2:=⟨_,rfl⟩;have hs2:N2.sv=je (gq M.sv assume):=by rw[hgs,←hN2];rfl
   rw[hN2] at h2;have H2:=zH h2;have HS2:=zH hs2;clear hgs h2 hs2 hN2 hg HG
   go_wp2_with fail
   clear c18 c22 c23 c21 c24 f0;refine (Jz H2.out (by rw[HS2.out];exact fA.out.bk)).mono ?_
   rintro e w3 ⟨rfl,N3,h3,h4⟩
   have hs4:(N3.Km 0).sv=M.sv.reset assume:=by
    rw[Nr,←HS2.out,←h4];rfl
   have c14:=h3.Bf;have f14:=h3.fz 14;have H4:=zH (h3.uD 0);have Tv:=zH hs4;clear h3 h4 hs4 H2 HS2;have HF:=fun w (hw:At B w0 w p (N3.Km 0) F)=>rZ hw (by rw[Tv.out];exact fA.out.fl);rw[Tv.out] at HF;obtain⟨R,hR⟩:∃ R,(M.sv.reset assume).follow=R:=⟨_,rfl⟩;rw[hR] at HF
   have hsv:M.sv.solve assume=if R.2=-1 then (if R.1.start.2 then ((((SM.gI assume (SM.qI R.1.start.1 assume) R.1.start.1 64).getD (R.1.start.1,0)).1.back 0),((SM.gI assume (SM.qI R.1.start.1 assume) R.1.start.1 64).getD (R.1.start.1,0)).1.told,((SM.gI assume (SM.qI R.1.start.1 assume) R.1.start.1 64).getD (R.1.start.1,0)).2) else (R.1.start.1,R.1.start.1.told,0)) else (R.1.ended R.2.toNat,2,0):=by
    rw[←hR];rfl
   have HEN:=zH fA.out.en;have Rm:=zH fA.out.st;have HSE:=zH fA.out.se;rw[hR] at HEN Rm HSE;obtain⟨bad,hbad⟩:∃ b,R.2=b:=⟨_,rfl⟩;rw[hbad] at HF HEN Rm HSE hsv;have HFF:=zH HF;have FB:=zH hsv;have HBAD:=zH hbad;have HRR:=zH hR;clear HF hsv hbad hR
   go_upto_region 9 with fail
   clear c14 f14;revert H4;generalize w3.setCell ⟨p,14,none⟩ (.int .i64 0)=w4;intro H4
   go_wp2_with fail
   refine (HFF.out _ H4.out).mono ?_
   rintro e w5 ⟨rfl,N5,h5,h6⟩
   have H5:=zH h5;have tY:=zH h6;clear h5 h6 HFF H4 Tv
   by_cases hb:bad=-1
   ·subst hb;have e2:decide ((-1:Int)=-1)=true:=by simp
    obtain⟨t1,t2,t3⟩:=Rm.out rfl;have HTT:=zH (Vb H5.out (by rw[tY.out];exact t1) (by rw[tY.out];exact t2) (by rw[tY.out];exact t3));have hsv:=FB.out;rw[if_pos rfl] at hsv;have hse:=HSE.out rfl;obtain⟨U,hU⟩:∃ U,R.1.start=U:=⟨_,rfl⟩;rw[tY.out,hU] at HTT;rw[hU] at hsv hse;obtain⟨ub,hub⟩:∃ b,U.2=b:=⟨_,rfl⟩;rw[hub] at HTT hsv hse;have Vi:=zH hsv;have aeL:=zH hse;clear t1 t2 t3 hsv hse hU hub FB HSE HEN Rm
    go_wp2_with fail
    refine HTT.out.mono ?_
    rintro e w6 ⟨rfl,N6,h7,h8⟩
    have H6:=zH h7;have zO:=zH h8;clear h7 h8 HTT
    cases ub with
    | false =>
     have c24:=H6.out.qm;obtain⟨tl,htl⟩:∃ t,N6.told=t:=⟨_,rfl⟩;rw[htl] at c24;have hsv:=Vi.out;rw[if_neg (by decide)] at hsv;have HTL:=zH (show M.sv.solve assume=(U.1,tl,0) by rw[hsv,←htl,show N6.told=U.1.told from congrArg SM.told zO.out]);clear hsv htl
     go_wp2
     exact⟨_,results_tmp2 rfl _ _ _,by rw[HTL.out];rfl,N6,H6.out,by rw[HTL.out];exact zO.out⟩
    | true =>
     obtain⟨V,hV⟩:=sH _ _ _ _ (aeL.out rfl);have hsv:=Vi.out;rw[if_pos rfl,hV] at hsv;have MJ:=zH (show M.sv.solve assume=(V.1.back 0,V.1.told,V.2) from hsv);have Rn:=zH hV;have Ai:=zH (aeL.out rfl);obtain⟨fu,hfu⟩:∃ f,SM.qI U.1 assume=f:=⟨_,rfl⟩;rw[hfu] at Rn Ai;clear hsv hV hfu Vi aeL
     go_wp2
     go_loopg [9] fu (fun g s9 wr=>∃ (u:Nat) (N:MM),s9=.int .i64 u∧Hid (At B w0 wr p N F)∧Hid (SM.gI assume g N.sv u=some V)∧Hid (jT assume g N.sv u))
     case atStart=>exact⟨64,N6,rfl,H6.out,zH (by rw[zO.out];exact Rn.out),zH (by rw[zO.out];exact Ai.out)⟩
     case round =>
      clear H6 zO Rn Ai;obtain⟨u,N,rfl,H7,HR7,HS7⟩:=hrel
      cases gk with
      | zero=>exact HS7.out.elim
      | succ g =>
       have hrun:=HR7.out;rw[qC] at hrun;obtain⟨s1,s2,s3,s4,s5⟩:=HS7.out;have HF:=zH (rZ H7.out s1);obtain⟨Q,hQ⟩:∃ Q,N.sv.follow=Q:=⟨_,rfl⟩;rw[hQ] at HF hrun s3 s4 s5;obtain⟨bd,hbd⟩:∃ b,Q.2=b:=⟨_,rfl⟩
       have Rh:bd≠-1→∃ n:Nat,bd=n:=by
        intro hne;have h9:=s1.num;rw[hQ,hbd] at h9;rcases h9 with h9 | h9
        ·exact absurd h9 hne
        ·exact⟨bd.toNat,(Int.toNat_of_nonneg h9).symm⟩
       have Ns:=zH Rh;clear Rh;rw[hbd] at HF hrun s4 s5;have Rn:=zH hrun;have Tv:=zH s4;have tY:=zH s5;clear hrun s1 s4 s5 hQ hbd HR7 HS7
       go_wp2_with fail
       refine HF.out.mono ?_
       rintro e w7 ⟨rfl,N7,h9,h10⟩
       have H8:=zH h9;have WL:=zH h10;clear h9 h10 HF H7
       by_cases hb2:bd=-1
       ·subst hb2;have e3:decide ((-1:Int)=-1)=true:=by simp
        have hrun:=Rn.out;rw[if_pos rfl] at hrun;obtain⟨d1,d2,d3,d4,d5⟩:=Tv.out rfl;obtain⟨nl,hnl⟩:∃ n,Q.1.learned.length=n:=⟨_,rfl⟩
        have ah3:N7.learned.xs.length=nl:=by
         have h9:(N7.learned.xs.map (·.xs))=Q.1.learned:=congrArg SM.learned WL.out;rw[←hnl,←h9,List.length_map]
        have c18:=H8.out.nC;rw[ah3] at c18;rw[hnl] at s3 d1
        have key:∀ (N8:MM) (w8:World) (v:Nat),At B w0 w8 p N8 F→N8.sv=anew Q.1 u→v=sG Q.1 u→(Calls Tryz.prog 73 #[.pointer (some ⟨p,0,none⟩),.slice A k ca] w8 fun e w'=>e=.returned (.bool ((anew Q.1 u).iV assume).2)∧∃ M',At B w0 w' p M' F∧M'.sv=((anew Q.1 u).iV assume).1):=by
         intro N8 w8 v h8 hs8 hv8;have h9:=Rk A k ca assume h8 HST.out fA.out.len fA.out.lits (by rw[hs8];exact d3) (by rw[hs8];exact d2);rw[hs8] at h9;exact h9
        obtain⟨D,hD⟩:∃ D,(anew Q.1 u).iV assume=D:=⟨_,rfl⟩;rw[hD] at hrun d4 d5 key;obtain⟨db,hdb⟩:∃ b,D.2=b:=⟨_,rfl⟩;rw[hdb] at hrun d4 d5 key;have HKEY:=zH key;have HD1:=zH d1;have HD4:=zH d4;have HD5:=zH d5;have F6:=zH hrun;have vR:=zH hnl;clear key d1 d2 d3 d4 d5 hrun hnl ah3 hD hdb Rn Tv tY
        by_cases UW:u≤nl
        ·have e4:decide ((u:Int)≤(nl:Int))=true:=by simp;omega
         have han:anew Q.1 u=Q.1.back 0:=by unfold anew;rw[if_pos (by rw[vR.out];exact UW)]
         have hla:sG Q.1 u=u+u/2:=by unfold sG;rw[if_pos (by rw[vR.out];exact UW)]
         have HAN:=zH han;have U4:=zH hla;have HBK:=zH (Jz H8.out (by rw[WL.out];exact HD1.out UW));clear han hla
         go_wp2_with fail
         refine HBK.out.mono ?_
         rintro e w8 ⟨rfl,N8,h9,h10⟩
         have HDC:=zH (HKEY.out N8 w8 (u+u/2) h9 (by rw[h10,WL.out,HAN.out]) U4.out.symm);clear HBK h9 h10 c18
         go_wp2_with fail
         refine HDC.out.mono ?_
         rintro e w9 ⟨rfl,N9,h11,h12⟩
         cases db with
         | true =>
          have H9:=zH h11;have A9:=zH h12;have hr3:=F6.out;rw[if_pos rfl,U4.out] at hr3;have hd4:=HD4.out rfl;rw[U4.out] at hd4;have HR3:=zH hr3;have HDD:=zH hd4;clear h11 h12 hr3 hd4 HDC
          go_wp2
          go_roundg g
          case measure=>omega
          case rel=>exact⟨u+u/2,N9,by go_num,H9.out,zH (by rw[A9.out];exact HR3.out),zH (by rw[A9.out];exact HDD.out)⟩
         | false =>
          have H9:=zH h11;have A9:=zH h12;have hr3:=F6.out;rw[if_neg (by decide)] at hr3;have HVX:=zH (show V=(D.1,0) from (Option.some.inj hr3).symm);clear h11 h12 hr3 HDC;have c24:=H9.out.qm;obtain⟨tl,htl⟩:∃ t,N9.told=t:=⟨_,rfl⟩;rw[htl] at c24
          have hvv:V.1=MM.sv N9∧V.1.told=tl:=by
           have h20:V.1=MM.sv N9:=by rw[A9.out,HVX.out]
           exact⟨h20,by rw[h20];exact htl⟩
          have qQ:=zH hvv;have HBD:=zH (fun w9 (h:At B w0 w9 p N9 F)=>uU h (by rw[A9.out];exact HD5.out rfl) .returning);clear htl hvv
          go_wp2
          refine leaves_cons (f:=69) (args:=#[.pointer (some ⟨p,0,none⟩),.int .i64 0]) (by simp) (by simp[go_sem]) ?_;refine (HBD.out _ H9.out).mono ?_
          rintro e u' w19 ⟨rfl,rfl,M19,h19,h20⟩
          exact⟨_,results_tmp2 rfl _ _ _,by rw[MJ.out,qQ.out.2,HVX.out];rfl,M19,h19,by rw[MJ.out,qQ.out.1];exact h20⟩
        ·have e4:decide ((u:Int)≤(nl:Int))=false:=by simp;omega
         have han:anew Q.1 u=Q.1:=by unfold anew;rw[if_neg (by rw[vR.out];exact UW)]
         have hla:sG Q.1 u=u:=by unfold sG;rw[if_neg (by rw[vR.out];exact UW)]
         have U4:=zH hla;have HDC:=zH (HKEY.out N7 w7 u H8.out (by rw[WL.out,han]) hla.symm);clear han hla
         go_wp2_with fail
         refine HDC.out.mono ?_
         rintro e w9 ⟨rfl,N9,h11,h12⟩
         cases db with
         | true =>
          have H9:=zH h11;have A9:=zH h12;have hr3:=F6.out;rw[if_pos rfl,U4.out] at hr3;have hd4:=HD4.out rfl;rw[U4.out] at hd4;have HR3:=zH hr3;have HDD:=zH hd4;clear h11 h12 hr3 hd4 HDC
          go_wp2
          go_roundg g
          case measure=>omega
          case rel=>exact⟨u,N9,by go_num,H9.out,zH (by rw[A9.out];exact HR3.out),zH (by rw[A9.out];exact HDD.out)⟩
         | false =>
          have H9:=zH h11;have A9:=zH h12;have hr3:=F6.out;rw[if_neg (by decide)] at hr3;have HVX:=zH (show V=(D.1,0) from (Option.some.inj hr3).symm);clear h11 h12 hr3 HDC;have c24:=H9.out.qm;obtain⟨tl,htl⟩:∃ t,N9.told=t:=⟨_,rfl⟩;rw[htl] at c24
          have hvv:V.1=MM.sv N9∧V.1.told=tl:=by
           have h20:V.1=MM.sv N9:=by rw[A9.out,HVX.out]
           exact⟨h20,by rw[h20];exact htl⟩
          have qQ:=zH hvv;have HBD:=zH (fun w9 (h:At B w0 w9 p N9 F)=>uU h (by rw[A9.out];exact HD5.out rfl) .returning);clear htl hvv
          go_wp2
          refine leaves_cons (f:=69) (args:=#[.pointer (some ⟨p,0,none⟩),.int .i64 0]) (by simp) (by simp[go_sem]) ?_;refine (HBD.out _ H9.out).mono ?_
          rintro e u' w19 ⟨rfl,rfl,M19,h19,h20⟩
          exact⟨_,results_tmp2 rfl _ _ _,by rw[MJ.out,qQ.out.2,HVX.out];rfl,M19,h19,by rw[MJ.out,qQ.out.1];exact h20⟩
       ·have e3:decide (bd=-1)=false:=by simpa using hb2
        have hrun:=Rn.out;rw[if_neg hb2] at hrun;obtain⟨⟨Z,rk,hmt⟩,d2,d3⟩:=tY.out hb2
        obtain⟨nb,MI⟩:∃ n:Nat,bd=n:=by
         obtain⟨nb,h⟩:=Ns.out hb2;exact⟨nb,h⟩
        subst MI;rw[Int.toNat_natCast] at hmt d2 d3 hrun;have hmc:=abA nb H8.out (by rw[WL.out];exact hmt);rw[WL.out] at hmc;obtain⟨m1,m2,m3,hmm⟩:∃ m1 m2 m3,Q.1.kr nb=(m1,m2,m3):=⟨_,_,_,rfl⟩;rw[hmm] at hmc d2 d3 hrun;dsimp only at hmc d2 d3 hrun;have HMC:=zH hmc;have HD2:=zH d2;have HD3:=zH d3;have F6:=zH hrun;clear hmt hmc d2 d3 hrun hmm
        go_wp2_with fail
        refine HMC.out.mono ?_
        rintro e w9 ⟨rfl,N9,h11,h12⟩
        have H9:=zH h11;have A9:=zH h12;clear h11 h12 HMC
        cases m2 with
        | true =>
         have hr3:=F6.out;rw[if_pos rfl] at hr3;have HR3:=zH hr3;have HDD:=zH (HD2.out rfl);clear hr3
         go_wp2
         go_roundg g
         case measure=>omega
         case rel=>exact⟨u,N9,rfl,H9.out,zH (by rw[A9.out];exact HR3.out),zH (by rw[A9.out];exact HDD.out)⟩
        | false =>
         have hr3:=F6.out;rw[if_neg (by decide)] at hr3;have HVX:=zH (show V=(m1,m3) from (Option.some.inj hr3).symm);clear hr3;have c24:=H9.out.qm;obtain⟨tl,htl⟩:∃ t,N9.told=t:=⟨_,rfl⟩;rw[htl] at c24
         have hvv:V.1=MM.sv N9∧V.1.told=tl:=by
          have h20:V.1=MM.sv N9:=by rw[A9.out,HVX.out]
          exact⟨h20,by rw[h20];exact htl⟩
         have qQ:=zH hvv;have HBD:=zH (fun w9 (h:At B w0 w9 p N9 F)=>uU h (by rw[A9.out];exact HD3.out rfl) .returning);clear htl hvv
         go_wp2
         refine leaves_cons (f:=69) (args:=#[.pointer (some ⟨p,0,none⟩),.int .i64 0]) (by simp) (by simp[go_sem]) ?_;refine (HBD.out _ H9.out).mono ?_
         rintro e u' w19 ⟨rfl,rfl,M19,h19,h20⟩
         exact⟨_,results_tmp2 rfl _ _ _,by rw[MJ.out,qQ.out.2,HVX.out];rfl,M19,h19,by rw[MJ.out,qQ.out.1];exact h20⟩
   ·have e2:decide (bad=-1)=false:=by simpa using hb
    obtain⟨Z,rk,hen⟩:=HEN.out hb;have hsv:=FB.out;rw[if_neg hb] at hsv
    obtain⟨nb,MI⟩:∃ n:Nat,bad=n:=by
     have h9:=fA.out.fl.num;rw[HRR.out,HBAD.out] at h9;rcases h9 with h9 | h9
     ·exact absurd h9 hb
     ·exact⟨bad.toNat,(Int.toNat_of_nonneg h9).symm⟩
    subst MI;rw[Int.toNat_natCast] at hsv;rw[Int.toNat_natCast] at hen;have HE2:=zH (rY nb H5.out (by rw[tY.out];exact hen));have Vi:=zH hsv;clear hen hsv
    go_wp2_with fail
    refine HE2.out.mono ?_
    rintro e w6 ⟨rfl,N6,h7,h8⟩
    have c24:=h7.qm
    have htl:N6.told=2:=by
     have h9:N6.told=((MM.sv N5).ended nb).told:=congrArg SM.told h8;rw[h9];rfl
    rw[htl] at c24;have H6:=zH h7;have zO:=zH h8;clear h7 h8 htl HE2
    go_wp2
    exact⟨_,results_tmp2 rfl _ _ _,by rw[Vi.out];rfl,N6,H6.out,by rw[Vi.out,zO.out,tY.out]⟩
end
end Go.Proofs.YthbbmdnfkkffjaaGreat

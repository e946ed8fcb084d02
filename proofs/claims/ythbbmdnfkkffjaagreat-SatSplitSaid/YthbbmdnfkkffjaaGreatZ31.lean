/-
  Parts of the proof, joined by program: Slv, Pi29.
-/
import Derived.Test.YthbbmdnfkkffjaaGreatZ30
namespace Go.Proofs.YthbbmdnfkkffjaaGreat
open Go.RowKit Go.Proofs.PlaitSep Go.Proofs.PlaitPure Go.Proofs.PlaitSat
structure BkOk (S:SM):Prop where
 hi:HInv S
 sz:Sz S
 tr:∀ l∈S.trail,l/2<S.value.length
 trl:S.trail.length≤900000
 el:S.ends.length≤900000
 en:0<S.ends.length→gn S.ends 0≤S.trail.length
def growAll (S:SM) (assume:List Int):SM:=assume.foldl (fun S a=>S.grow (packF a/2)) S
def growAllOk:SM→List Int→Prop
 | _,[]=>True
 | S,a :: r=>growOk (packF a/2+1-S.value.length) S∧growAllOk (S.grow (packF a/2)) r
def anew (S:SM) (u:Nat):SM:=if u≤S.learned.length then S.back 0 else S
def laterU (S:SM) (u:Nat):Nat:=if u≤S.learned.length then u+u/2 else u
def searchOk (assume:List Int):Nat→SM→Nat→Prop
 | 0,_,_=>False
 | f+1,S,u=>FlOk S∧u≤1000000∧S.follow.1.learned.length≤1000000 ∧
  (S.follow.2=-1→(u≤S.follow.1.learned.length→BkOk S.follow.1)∧decOk assume (assume.length-(anew S.follow.1 u).ends.length) (anew S.follow.1 u)∧(∀ a∈assume,packF a/2<(anew S.follow.1 u).value.length) ∧
   (((anew S.follow.1 u).decide_ assume).2=true→searchOk assume f ((anew S.follow.1 u).decide_ assume).1 (laterU S.follow.1 u)) ∧
   (((anew S.follow.1 u).decide_ assume).2=false→BkOk ((anew S.follow.1 u).decide_ assume).1)) ∧
  (S.follow.2≠-1→(∃ Z rk,MtOk S.follow.1 S.follow.2.toNat Z rk)∧((S.follow.1.metF S.follow.2.toNat).2.1=true→searchOk assume f (S.follow.1.metF S.follow.2.toNat).1 u) ∧
   ((S.follow.1.metF S.follow.2.toNat).2.1=false→BkOk (S.follow.1.metF S.follow.2.toNat).1))
theorem searchGo_succ (assume:List Int) (f:Nat) (S:SM) (u:Nat):SM.searchGo assume (f+1) S u =
  if S.follow.2=-1 then (if ((anew S.follow.1 u).decide_ assume).2 then SM.searchGo assume f ((anew S.follow.1 u).decide_ assume).1 (laterU S.follow.1 u) else some (((anew S.follow.1 u).decide_ assume).1,0))
  else if (S.follow.1.metF S.follow.2.toNat).2.1 then SM.searchGo assume f (S.follow.1.metF S.follow.2.toNat).1 u else some ((S.follow.1.metF S.follow.2.toNat).1,(S.follow.1.metF S.follow.2.toNat).2.2):=rfl
theorem searchOk_run (assume:List Int):∀ (f:Nat) (S:SM) (u:Nat),searchOk assume f S u→∃ V,SM.searchGo assume f S u=some V
 | 0,_,_,h=>h.elim
 | f+1,S,u,h=>by
  rw[searchGo_succ]
  obtain⟨_,_,_,h1,h2⟩:=h
  split
  ·rename_i hf
   obtain⟨_,_,_,h3,_⟩:=h1 hf
   split
   ·rename_i hd
    exact searchOk_run assume f _ _ (h3 hd)
   ·exact⟨_,rfl⟩
  ·rename_i hf
   obtain⟨_,h3,_⟩:=h2 hf
   split
   ·rename_i hd
    exact searchOk_run assume f _ _ (h3 hd)
   ·exact⟨_,rfl⟩
def wiped (S:SM):SM:={ S with learned:=[],core:=[],last:=[],model:=[],told:=0 }
theorem reset_eq (S:SM) (assume:List Int):S.reset assume={ (wiped (growAll S assume)).back 0 with next:=0 }:=rfl
structure SvOk (S:SM) (assume:List Int):Prop where
 len:assume.length≤900000
 lits:∀ a∈assume,a.natAbs≤65536
 gr:growAllOk S assume
 bk:BkOk (wiped (growAll S assume))
 fl:FlOk (S.reset assume)
 en:(S.reset assume).follow.2≠-1→∃ Z rk,EnOk (S.reset assume).follow.1 (S.reset assume).follow.2.toNat Z rk
 st:(S.reset assume).follow.2=-1→startOk ((S.reset assume).follow.1.given.length-(S.reset assume).follow.1.fresh) (S.reset assume).follow.1∧(S.reset assume).follow.1.given.length≤1000000∧(S.reset assume).follow.1.fresh≤(S.reset assume).follow.1.given.length
 se:(S.reset assume).follow.2=-1→(S.reset assume).follow.1.start.2=true→searchOk assume (SM.fuelS (S.reset assume).follow.1.start.1 assume) (S.reset assume).follow.1.start.1 64
section
variable {B:Nat} {w0 w:World} {p:Nat} {M:MM} {F:HP}
theorem back0_any (h:At B w0 w p M F) (hok:BkOk M.sv) :
  Calls Tryz.prog 69 #[.pointer (some ⟨p,0,none⟩),.int .i64 0] w fun e w'=>e=.returned (.tuple #[])∧∃ M',At B w0 w' p M' F∧M'.sv=M.sv.back 0:=by
 refine (back_any 0 h hok.hi hok.sz hok.tr (by have:=hok.trl;show M.sv.trail.length≤_;omega) (by have:=hok.el;show M.sv.ends.length≤_;omega) hok.en (by omega)).mono ?_
 rintro e w' ⟨h1,_,_,_,_,_,_,_,_,_,h2,h3⟩
 exact⟨h1,_,h2,h3⟩
theorem back0_defer (h:At B w0 w p M F) (hok:BkOk M.sv) (u:FrameMode) :
  CallsD Tryz.prog 69 #[.pointer (some ⟨p,0,none⟩),.int .i64 0] u w fun e u' w'=>u'=u∧e=.returned (.tuple #[])∧∃ M',At B w0 w' p M' F∧M'.sv=M.sv.back 0:=by
 refine (back_defer 0 h hok.hi hok.sz hok.tr (by have:=hok.trl;show M.sv.trail.length≤_;omega) (by have:=hok.el;show M.sv.ends.length≤_;omega) hok.en (by omega) u).mono ?_
 rintro e u' w' ⟨h0,h1,_,_,_,_,_,_,_,_,_,h2,h3⟩
 exact⟨h0,h1,_,h2,h3⟩
set_option maxRecDepth 100000 in
set_option maxHeartbeats 4000000 in
theorem Solve_any (A:Option Addr) (na ca:Nat) (assume:List Int) (h:At B w0 w p M F) (hst:Stays B w0 F A na assume) (hok:SvOk M.sv assume) :
  Calls Tryz.prog 44 #[.pointer (some ⟨p,0,none⟩),.slice A na ca] w fun e w'=>e=.returned (.tuple #[.int .i64 (M.sv.solve assume).2.1,.int .i64 (M.sv.solve assume).2.2])∧∃ M',At B w0 w' p M' F∧M'.sv=(M.sv.solve assume).1:=by
 have hna:assume.length=na:=(At.rd0 hst h).len
 have hnb:na≤900000:=by rw[←hna];exact hok.len
 have H:=Lib.hid h
 have HST:=Lib.hid hst
 have HNA:=Lib.hid hna
 have HOK:=Lib.hid hok
 clear h hst hna hok
 go_enter_defers Tryz.func44,Tryz.ntmps44
 go_wp2
 go_loopg [15] na (fun g s15 wr=>∃ (k:Nat) (N:MM),s15=.int .i64 k∧k≤na∧Hid (g=na-k)∧Hid (At B w0 wr p N F)∧Hid (growAll N.sv (assume.drop k)=growAll M.sv assume∧growAllOk N.sv (assume.drop k)))
 case atStart=>exact⟨0,M,rfl,Nat.zero_le _,rfl,H.out,⟨rfl,HOK.out.gr⟩⟩
 case round =>
  obtain⟨k,N,rfl,hkn,hg,H1,HG⟩:=hrel
  by_cases hkl:k<na
  ·have e1:decide ((k:Int)<(na:Int))=true:=by simp;omega
   obtain⟨b,o,rfl,hc⟩:=(At.rd0 HST.out H1.out).cells (by omega)
   obtain⟨a,ha⟩:∃ a,gi assume k=a:=⟨_,rfl⟩
   have k3:=hc k hkl
   rw[ha] at k3
   have hkx:k<assume.length:=by rw[HNA.out];exact hkl
   have ham:a∈assume:=by rw[←ha,gi_eq _ _ hkx];exact List.getElem_mem hkx
   have hal:=HOK.out.lits a ham
   have hdr:assume.drop k=a :: assume.drop (k+1):=by rw[←ha,gi_eq _ _ hkx];exact List.drop_eq_getElem_cons hkx
   have hg1:=HG.out
   rw[hdr] at hg1
   obtain⟨g1,g2,g3⟩:=hg1
   have hpb:packF a≤131073:=by unfold packF;split <;> omega
   have HPK:=Lib.hid (fun V=>pack_any a V (by omega) (by omega))
   have HVV:=Lib.hid (fun V=>v_any (packF a) V (by omega))
   have HGR:=Lib.hid (grow_any (packF a/2) H1.out g2 (by omega))
   obtain⟨q,hq⟩:∃ q,packF a/2=q:=⟨_,rfl⟩
   obtain⟨l,hl⟩:∃ l,packF a=l:=⟨_,rfl⟩
   have hg4:growAll (N.sv.grow (packF a/2)) (assume.drop (k+1))=growAll M.sv assume:=g1
   rw[hq] at HVV HGR hg4 g3
   rw[hl] at HPK HVV
   have HG3:=Lib.hid g3
   have HG4:=Lib.hid hg4
   have p0:(0:Int)≤(k:Int):=by omega
   have p1:(k:Int)<(na:Int):=by omega
   clear g1 g2 g3 hg4 ha hkx ham hal hdr hc hpb hq hl HG
   go_wp2_with fail
   refine (HPK.out _).mono ?_
   rintro e w2 ⟨rfl,rfl⟩
   go_wp2_with fail
   refine (HVV.out _).mono ?_
   rintro e w2 ⟨rfl,rfl⟩
   go_wp2_with fail
   refine HGR.out.mono ?_
   rintro e w3 ⟨rfl,N3,h3,h4⟩
   have H3:=Lib.hid h3
   have HS3:=Lib.hid h4
   clear h3 h4 HGR k3
   go_wp2
   go_roundg (na-(k+1))
   case measure=>have:=hg.out;omega
   case rel=>exact⟨k+1,N3,by go_num,by omega,rfl,H3.out,⟨by rw[HS3.out];exact HG4.out,by rw[HS3.out];exact HG3.out⟩⟩
  ·obtain rfl:k=na:=by omega
   have e1:decide ((k:Int)<(k:Int))=false:=by simp
   have hgs:growAll M.sv assume=N.sv:=by have h9:=HG.out.1;rw[List.drop_of_length_le (by rw[HNA.out];exact Nat.le_refl _)] at h9;exact h9.symm
   have c18:=H1.out.c_learned
   have c22:=H1.out.c_core
   have c23:=H1.out.c_last
   have c21:=H1.out.c_model
   have c24:=H1.out.c_told
   have f0:=H1.out.fz
   have h2:=((((H1.out.nil_learned).nil_core).nil_last).nil_model).put_told 0
   obtain⟨N2,hN2⟩:∃ N2,((((N.u_learned ⟨none,0,[]⟩).u_core ⟨none,0,[]⟩).u_last ⟨none,0,[]⟩).u_model ⟨none,0,[]⟩).u_told 0=N2:=⟨_,rfl⟩
   have hs2:N2.sv=wiped (growAll M.sv assume):=by rw[hgs,←hN2];rfl
   rw[hN2] at h2
   have H2:=Lib.hid h2
   have HS2:=Lib.hid hs2
   clear hgs h2 hs2 hN2 hg HG
   go_wp2_with fail
   clear c18 c22 c23 c21 c24 f0
   refine (back0_any H2.out (by rw[HS2.out];exact HOK.out.bk)).mono ?_
   rintro e w3 ⟨rfl,N3,h3,h4⟩
   have hs4:(N3.u_next 0).sv=M.sv.reset assume:=by
    rw[reset_eq,←HS2.out,←h4]
    rfl
   have c14:=h3.c_next
   have f14:=h3.fz 14
   have H4:=Lib.hid (h3.put_next 0)
   have HS4:=Lib.hid hs4
   clear h3 h4 hs4 H2 HS2
   have HF:=fun w (hw:At B w0 w p (N3.u_next 0) F)=>sfollow_any' hw (by rw[HS4.out];exact HOK.out.fl)
   rw[HS4.out] at HF
   obtain⟨R,hR⟩:∃ R,(M.sv.reset assume).follow=R:=⟨_,rfl⟩
   rw[hR] at HF
   have hsv:M.sv.solve assume=if R.2=-1 then (if R.1.start.2 then ((((SM.searchGo assume (SM.fuelS R.1.start.1 assume) R.1.start.1 64).getD (R.1.start.1,0)).1.back 0),((SM.searchGo assume (SM.fuelS R.1.start.1 assume) R.1.start.1 64).getD (R.1.start.1,0)).1.told,((SM.searchGo assume (SM.fuelS R.1.start.1 assume) R.1.start.1 64).getD (R.1.start.1,0)).2) else (R.1.start.1,R.1.start.1.told,0)) else (R.1.ended R.2.toNat,2,0):=by
    rw[←hR];rfl
   have HEN:=Lib.hid HOK.out.en
   have HSTT:=Lib.hid HOK.out.st
   have HSE:=Lib.hid HOK.out.se
   rw[hR] at HEN HSTT HSE
   obtain⟨bad,hbad⟩:∃ b,R.2=b:=⟨_,rfl⟩
   rw[hbad] at HF HEN HSTT HSE hsv
   have HFF:=Lib.hid HF
   have HSV:=Lib.hid hsv
   have HBAD:=Lib.hid hbad
   have HRR:=Lib.hid hR
   clear HF hsv hbad hR
   go_upto_region 9 with fail
   clear c14 f14
   revert H4
   generalize w3.setCell ⟨p,14,none⟩ (.int .i64 0)=w4
   intro H4
   go_wp2_with fail
   refine (HFF.out _ H4.out).mono ?_
   rintro e w5 ⟨rfl,N5,h5,h6⟩
   have H5:=Lib.hid h5
   have HS5:=Lib.hid h6
   clear h5 h6 HFF H4 HS4
   by_cases hb:bad=-1
   ·subst hb
    have e2:decide ((-1:Int)=-1)=true:=by simp
    obtain⟨t1,t2,t3⟩:=HSTT.out rfl
    have HTT:=Lib.hid (start_any H5.out (by rw[HS5.out];exact t1) (by rw[HS5.out];exact t2) (by rw[HS5.out];exact t3))
    have hsv:=HSV.out
    rw[if_pos rfl] at hsv
    have hse:=HSE.out rfl
    obtain⟨U,hU⟩:∃ U,R.1.start=U:=⟨_,rfl⟩
    rw[HS5.out,hU] at HTT
    rw[hU] at hsv hse
    obtain⟨ub,hub⟩:∃ b,U.2=b:=⟨_,rfl⟩
    rw[hub] at HTT hsv hse
    have HSV2:=Lib.hid hsv
    have HSE2:=Lib.hid hse
    clear t1 t2 t3 hsv hse hU hub HSV HSE HEN HSTT
    go_wp2_with fail
    refine HTT.out.mono ?_
    rintro e w6 ⟨rfl,N6,h7,h8⟩
    have H6:=Lib.hid h7
    have HS6:=Lib.hid h8
    clear h7 h8 HTT
    cases ub with
    | false =>
     have c24:=H6.out.c_told
     obtain⟨tl,htl⟩:∃ t,N6.told=t:=⟨_,rfl⟩
     rw[htl] at c24
     have hsv:=HSV2.out
     rw[if_neg (by decide)] at hsv
     have HTL:=Lib.hid (show M.sv.solve assume=(U.1,tl,0) by rw[hsv,←htl,show N6.told=U.1.told from congrArg SM.told HS6.out])
     clear hsv htl
     go_wp2
     exact⟨_,results_tmp2 rfl _ _ _,by rw[HTL.out];rfl,N6,H6.out,by rw[HTL.out];exact HS6.out⟩
    | true =>
     obtain⟨V,hV⟩:=searchOk_run _ _ _ _ (HSE2.out rfl)
     have hsv:=HSV2.out
     rw[if_pos rfl,hV] at hsv
     have HSV3:=Lib.hid (show M.sv.solve assume=(V.1.back 0,V.1.told,V.2) from hsv)
     have HRUN:=Lib.hid hV
     have HSO:=Lib.hid (HSE2.out rfl)
     obtain⟨fu,hfu⟩:∃ f,SM.fuelS U.1 assume=f:=⟨_,rfl⟩
     rw[hfu] at HRUN HSO
     clear hsv hV hfu HSV2 HSE2
     go_wp2
     go_loopg [9] fu (fun g s9 wr=>∃ (u:Nat) (N:MM),s9=.int .i64 u∧Hid (At B w0 wr p N F)∧Hid (SM.searchGo assume g N.sv u=some V)∧Hid (searchOk assume g N.sv u))
     case atStart=>exact⟨64,N6,rfl,H6.out,Lib.hid (by rw[HS6.out];exact HRUN.out),Lib.hid (by rw[HS6.out];exact HSO.out)⟩
     case round =>
      clear H6 HS6 HRUN HSO
      obtain⟨u,N,rfl,H7,HR7,HS7⟩:=hrel
      cases gk with
      | zero=>exact HS7.out.elim
      | succ g =>
       have hrun:=HR7.out
       rw[searchGo_succ] at hrun
       obtain⟨s1,s2,s3,s4,s5⟩:=HS7.out
       have HF:=Lib.hid (sfollow_any' H7.out s1)
       obtain⟨Q,hQ⟩:∃ Q,N.sv.follow=Q:=⟨_,rfl⟩
       rw[hQ] at HF hrun s3 s4 s5
       obtain⟨bd,hbd⟩:∃ b,Q.2=b:=⟨_,rfl⟩
       have hnum:bd≠-1→∃ n:Nat,bd=n:=by
        intro hne
        have h9:=s1.num
        rw[hQ,hbd] at h9
        rcases h9 with h9 | h9
        ·exact absurd h9 hne
        ·exact⟨bd.toNat,(Int.toNat_of_nonneg h9).symm⟩
       have HNUM:=Lib.hid hnum
       clear hnum
       rw[hbd] at HF hrun s4 s5
       have HRUN:=Lib.hid hrun
       have HS4:=Lib.hid s4
       have HS5:=Lib.hid s5
       clear hrun s1 s4 s5 hQ hbd HR7 HS7
       go_wp2_with fail
       refine HF.out.mono ?_
       rintro e w7 ⟨rfl,N7,h9,h10⟩
       have H8:=Lib.hid h9
       have HS8:=Lib.hid h10
       clear h9 h10 HF H7
       by_cases hb2:bd=-1
       ·subst hb2
        have e3:decide ((-1:Int)=-1)=true:=by simp
        have hrun:=HRUN.out
        rw[if_pos rfl] at hrun
        obtain⟨d1,d2,d3,d4,d5⟩:=HS4.out rfl
        obtain⟨nl,hnl⟩:∃ n,Q.1.learned.length=n:=⟨_,rfl⟩
        have hnl7:N7.learned.xs.length=nl:=by
         have h9:(N7.learned.xs.map (·.xs))=Q.1.learned:=congrArg SM.learned HS8.out
         rw[←hnl,←h9,List.length_map]
        have c18:=H8.out.c_learned
        rw[hnl7] at c18
        rw[hnl] at s3 d1
        have key:∀ (N8:MM) (w8:World) (v:Nat),At B w0 w8 p N8 F→N8.sv=anew Q.1 u→v=laterU Q.1 u→(Calls Tryz.prog 73 #[.pointer (some ⟨p,0,none⟩),.slice A k ca] w8 fun e w'=>e=.returned (.bool ((anew Q.1 u).decide_ assume).2)∧∃ M',At B w0 w' p M' F∧M'.sv=((anew Q.1 u).decide_ assume).1):=by
         intro N8 w8 v h8 hs8 hv8
         have h9:=decide_any A k ca assume h8 HST.out HOK.out.len HOK.out.lits (by rw[hs8];exact d3) (by rw[hs8];exact d2)
         rw[hs8] at h9
         exact h9
        obtain⟨D,hD⟩:∃ D,(anew Q.1 u).decide_ assume=D:=⟨_,rfl⟩
        rw[hD] at hrun d4 d5 key
        obtain⟨db,hdb⟩:∃ b,D.2=b:=⟨_,rfl⟩
        rw[hdb] at hrun d4 d5 key
        have HKEY:=Lib.hid key
        have HD1:=Lib.hid d1
        have HD4:=Lib.hid d4
        have HD5:=Lib.hid d5
        have HRUN2:=Lib.hid hrun
        have HNL:=Lib.hid hnl
        clear key d1 d2 d3 d4 d5 hrun hnl hnl7 hD hdb HRUN HS4 HS5
        by_cases hul:u≤nl
        ·have e4:decide ((u:Int)≤(nl:Int))=true:=by simp;omega
         have han:anew Q.1 u=Q.1.back 0:=by unfold anew;rw[if_pos (by rw[HNL.out];exact hul)]
         have hla:laterU Q.1 u=u+u/2:=by unfold laterU;rw[if_pos (by rw[HNL.out];exact hul)]
         have HAN:=Lib.hid han
         have HLA:=Lib.hid hla
         have HBK:=Lib.hid (back0_any H8.out (by rw[HS8.out];exact HD1.out hul))
         clear han hla
         go_wp2_with fail
         refine HBK.out.mono ?_
         rintro e w8 ⟨rfl,N8,h9,h10⟩
         have HDC:=Lib.hid (HKEY.out N8 w8 (u+u/2) h9 (by rw[h10,HS8.out,HAN.out]) HLA.out.symm)
         clear HBK h9 h10 c18
         go_wp2_with fail
         refine HDC.out.mono ?_
         rintro e w9 ⟨rfl,N9,h11,h12⟩
         cases db with
         | true =>
          have H9:=Lib.hid h11
          have HS9:=Lib.hid h12
          have hr3:=HRUN2.out
          rw[if_pos rfl,HLA.out] at hr3
          have hd4:=HD4.out rfl
          rw[HLA.out] at hd4
          have HR3:=Lib.hid hr3
          have HDD:=Lib.hid hd4
          clear h11 h12 hr3 hd4 HDC
          go_wp2
          go_roundg g
          case measure=>omega
          case rel=>exact⟨u+u/2,N9,by go_num,H9.out,Lib.hid (by rw[HS9.out];exact HR3.out),Lib.hid (by rw[HS9.out];exact HDD.out)⟩
         | false =>
          have H9:=Lib.hid h11
          have HS9:=Lib.hid h12
          have hr3:=HRUN2.out
          rw[if_neg (by decide)] at hr3
          have HVX:=Lib.hid (show V=(D.1,0) from (Option.some.inj hr3).symm)
          clear h11 h12 hr3 HDC
          have c24:=H9.out.c_told
          obtain⟨tl,htl⟩:∃ t,N9.told=t:=⟨_,rfl⟩
          rw[htl] at c24
          have hvv:V.1=MM.sv N9∧V.1.told=tl:=by
           have h20:V.1=MM.sv N9:=by rw[HS9.out,HVX.out]
           exact⟨h20,by rw[h20];exact htl⟩
          have HVV:=Lib.hid hvv
          have HBD:=Lib.hid (fun w9 (h:At B w0 w9 p N9 F)=>back0_defer h (by rw[HS9.out];exact HD5.out rfl) .returning)
          clear htl hvv
          go_wp2
          refine leaves_cons (f:=69) (args:=#[.pointer (some ⟨p,0,none⟩),.int .i64 0]) (by simp) (by simp[go_sem]) ?_
          refine (HBD.out _ H9.out).mono ?_
          rintro e u' w19 ⟨rfl,rfl,M19,h19,h20⟩
          exact⟨_,results_tmp2 rfl _ _ _,by rw[HSV3.out,HVV.out.2,HVX.out];rfl,M19,h19,by rw[HSV3.out,HVV.out.1];exact h20⟩
        ·have e4:decide ((u:Int)≤(nl:Int))=false:=by simp;omega
         have han:anew Q.1 u=Q.1:=by unfold anew;rw[if_neg (by rw[HNL.out];exact hul)]
         have hla:laterU Q.1 u=u:=by unfold laterU;rw[if_neg (by rw[HNL.out];exact hul)]
         have HLA:=Lib.hid hla
         have HDC:=Lib.hid (HKEY.out N7 w7 u H8.out (by rw[HS8.out,han]) hla.symm)
         clear han hla
         go_wp2_with fail
         refine HDC.out.mono ?_
         rintro e w9 ⟨rfl,N9,h11,h12⟩
         cases db with
         | true =>
          have H9:=Lib.hid h11
          have HS9:=Lib.hid h12
          have hr3:=HRUN2.out
          rw[if_pos rfl,HLA.out] at hr3
          have hd4:=HD4.out rfl
          rw[HLA.out] at hd4
          have HR3:=Lib.hid hr3
          have HDD:=Lib.hid hd4
          clear h11 h12 hr3 hd4 HDC
          go_wp2
          go_roundg g
          case measure=>omega
          case rel=>exact⟨u,N9,by go_num,H9.out,Lib.hid (by rw[HS9.out];exact HR3.out),Lib.hid (by rw[HS9.out];exact HDD.out)⟩
         | false =>
          have H9:=Lib.hid h11
          have HS9:=Lib.hid h12
          have hr3:=HRUN2.out
          rw[if_neg (by decide)] at hr3
          have HVX:=Lib.hid (show V=(D.1,0) from (Option.some.inj hr3).symm)
          clear h11 h12 hr3 HDC
          have c24:=H9.out.c_told
          obtain⟨tl,htl⟩:∃ t,N9.told=t:=⟨_,rfl⟩
          rw[htl] at c24
          have hvv:V.1=MM.sv N9∧V.1.told=tl:=by
           have h20:V.1=MM.sv N9:=by rw[HS9.out,HVX.out]
           exact⟨h20,by rw[h20];exact htl⟩
          have HVV:=Lib.hid hvv
          have HBD:=Lib.hid (fun w9 (h:At B w0 w9 p N9 F)=>back0_defer h (by rw[HS9.out];exact HD5.out rfl) .returning)
          clear htl hvv
          go_wp2
          refine leaves_cons (f:=69) (args:=#[.pointer (some ⟨p,0,none⟩),.int .i64 0]) (by simp) (by simp[go_sem]) ?_
          refine (HBD.out _ H9.out).mono ?_
          rintro e u' w19 ⟨rfl,rfl,M19,h19,h20⟩
          exact⟨_,results_tmp2 rfl _ _ _,by rw[HSV3.out,HVV.out.2,HVX.out];rfl,M19,h19,by rw[HSV3.out,HVV.out.1];exact h20⟩
       ·have e3:decide (bd=-1)=false:=by simpa using hb2
        have hrun:=HRUN.out
        rw[if_neg hb2] at hrun
        obtain⟨⟨Z,rk,hmt⟩,d2,d3⟩:=HS5.out hb2
        obtain⟨nb,hnb2⟩:∃ n:Nat,bd=n:=by
         obtain⟨nb,h⟩:=HNUM.out hb2
         exact⟨nb,h⟩
        subst hnb2
        rw[Int.toNat_natCast] at hmt d2 d3 hrun
        have hmc:=met_any nb H8.out (by rw[HS8.out];exact hmt)
        rw[HS8.out] at hmc
        obtain⟨m1,m2,m3,hmm⟩:∃ m1 m2 m3,Q.1.metF nb=(m1,m2,m3):=⟨_,_,_,rfl⟩
        rw[hmm] at hmc d2 d3 hrun
        dsimp only at hmc d2 d3 hrun
        have HMC:=Lib.hid hmc
        have HD2:=Lib.hid d2
        have HD3:=Lib.hid d3
        have HRUN2:=Lib.hid hrun
        clear hmt hmc d2 d3 hrun hmm
        go_wp2_with fail
        refine HMC.out.mono ?_
        rintro e w9 ⟨rfl,N9,h11,h12⟩
        have H9:=Lib.hid h11
        have HS9:=Lib.hid h12
        clear h11 h12 HMC
        cases m2 with
        | true =>
         have hr3:=HRUN2.out
         rw[if_pos rfl] at hr3
         have HR3:=Lib.hid hr3
         have HDD:=Lib.hid (HD2.out rfl)
         clear hr3
         go_wp2
         go_roundg g
         case measure=>omega
         case rel=>exact⟨u,N9,rfl,H9.out,Lib.hid (by rw[HS9.out];exact HR3.out),Lib.hid (by rw[HS9.out];exact HDD.out)⟩
        | false =>
         have hr3:=HRUN2.out
         rw[if_neg (by decide)] at hr3
         have HVX:=Lib.hid (show V=(m1,m3) from (Option.some.inj hr3).symm)
         clear hr3
         have c24:=H9.out.c_told
         obtain⟨tl,htl⟩:∃ t,N9.told=t:=⟨_,rfl⟩
         rw[htl] at c24
         have hvv:V.1=MM.sv N9∧V.1.told=tl:=by
          have h20:V.1=MM.sv N9:=by rw[HS9.out,HVX.out]
          exact⟨h20,by rw[h20];exact htl⟩
         have HVV:=Lib.hid hvv
         have HBD:=Lib.hid (fun w9 (h:At B w0 w9 p N9 F)=>back0_defer h (by rw[HS9.out];exact HD3.out rfl) .returning)
         clear htl hvv
         go_wp2
         refine leaves_cons (f:=69) (args:=#[.pointer (some ⟨p,0,none⟩),.int .i64 0]) (by simp) (by simp[go_sem]) ?_
         refine (HBD.out _ H9.out).mono ?_
         rintro e u' w19 ⟨rfl,rfl,M19,h19,h20⟩
         exact⟨_,results_tmp2 rfl _ _ _,by rw[HSV3.out,HVV.out.2,HVX.out];rfl,M19,h19,by rw[HSV3.out,HVV.out.1];exact h20⟩
   ·have e2:decide (bad=-1)=false:=by simpa using hb
    obtain⟨Z,rk,hen⟩:=HEN.out hb
    have hsv:=HSV.out
    rw[if_neg hb] at hsv
    obtain⟨nb,hnb2⟩:∃ n:Nat,bad=n:=by
     have h9:=HOK.out.fl.num
     rw[HRR.out,HBAD.out] at h9
     rcases h9 with h9 | h9
     ·exact absurd h9 hb
     ·exact⟨bad.toNat,(Int.toNat_of_nonneg h9).symm⟩
    subst hnb2
    rw[Int.toNat_natCast] at hsv
    rw[Int.toNat_natCast] at hen
    have HE2:=Lib.hid (ended_any' nb H5.out (by rw[HS5.out];exact hen))
    have HSV2:=Lib.hid hsv
    clear hen hsv
    go_wp2_with fail
    refine HE2.out.mono ?_
    rintro e w6 ⟨rfl,N6,h7,h8⟩
    have c24:=h7.c_told
    have htl:N6.told=2:=by
     have h9:N6.told=((MM.sv N5).ended nb).told:=congrArg SM.told h8
     rw[h9];rfl
    rw[htl] at c24
    have H6:=Lib.hid h7
    have HS6:=Lib.hid h8
    clear h7 h8 htl HE2
    go_wp2
    exact⟨_,results_tmp2 rfl _ _ _,by rw[HSV2.out];rfl,N6,H6.out,by rw[HSV2.out,HS6.out,HS5.out]⟩
end
end Go.Proofs.YthbbmdnfkkffjaaGreat
namespace Go.Proofs.YthbbmdnfkkffjaaGreat
open Go.Proofs.PlaitPure Go.Proofs.PlaitSat
def lw (S:SM):Nat:=(S.learned.map fun c=>c.length+2).sum
structure Along (S T:SM):Prop where
 same:T.given=S.given∧T.fresh=S.fresh∧T.most=S.most∧T.conf=S.conf∧T.occurs=S.occurs
 kept:T.model=S.model∧T.core=S.core∧T.told=S.told∧T.last=S.last
 vlen:T.value.length=S.value.length
 sem:∀ a,ModC a S→ModC a T
 held:∀ r,r<S.cls.length→r<T.cls.length∧(T.cl r).Perm (S.cl r)
 wl:T.words+lw S=S.words+lw T
 ln:∀ c∈T.learned,c∈S.learned∨∃ d:List Nat,c=d.map numF∧(d.map (·/2)).Nodup∧(∀ x∈d,2≤x∧x/2<S.value.length)∧∀ a,ModC a S→∃ l∈d,tr a l=true
theorem Along.refl (S:SM):Along S S:=⟨⟨rfl,rfl,rfl,rfl,rfl⟩,⟨rfl,rfl,rfl,rfl⟩,rfl,fun _ h=>h,fun _ h=>⟨h,List.Perm.refl _⟩,rfl,fun _ h=>.inl h⟩
theorem Along.trans {S T U:SM} (h:Along S T) (k:Along T U):Along S U:=by
 obtain⟨a1,a2,a3,a4,a5⟩:=h.same
 obtain⟨b1,b2,b3,b4,b5⟩:=k.same
 obtain⟨c1,c2,c3,c4⟩:=h.kept
 obtain⟨d1,d2,d3,d4⟩:=k.kept
 refine⟨⟨b1.trans a1,b2.trans a2,b3.trans a3,b4.trans a4,b5.trans a5⟩,⟨d1.trans c1,d2.trans c2,d3.trans c3,d4.trans c4⟩,k.vlen.trans h.vlen,fun a x=>k.sem a (h.sem a x),fun r hr=>?_,?_,fun c hc=>?_⟩
 ·obtain⟨x,y⟩:=h.held r hr
  obtain⟨u,v⟩:=k.held r x
  exact⟨u,v.trans y⟩
 ·have:=h.wl
  have:=k.wl
  omega
 ·rcases k.ln c hc with x | ⟨d,d1,d2,d3,d4⟩
  ·exact h.ln c x
  ·exact .inr ⟨d,d1,d2,fun x hx=>by rw[←h.vlen];exact d3 x hx,fun a x=>d4 a (h.sem a x)⟩
theorem ModC.perm {a:Nat→Bool} {S T:SM} (h:ModC a S) (hl:T.cls.length=S.cls.length) (hp:∀ r,(T.cl r).Perm (S.cl r)):ModC a T:=fun r hr=>by
 obtain⟨x,hx,ht⟩:=h r (by omega)
 exact⟨x,(hp r).mem_iff.2 hx,ht⟩
theorem along_follow {S:SM} (h:FoI S):Along S S.follow.1:=by
 obtain⟨F,_⟩:=follow_fold h
 obtain⟨R,hR⟩:∃ R,S.follow=R:=⟨_,rfl⟩
 rw[hR] at F ⊢
 have hf:=F.fwd
 have hp:∀ r,(R.1.cl r).Perm (S.cl r):=fun r=>hf.perm r
 have hl:R.1.cls.length=S.cls.length:=hf.clen
 have hv:R.1.value.length=S.value.length:=hf.vlen
 obtain⟨cs,ws,va,le,re,t,e⟩:=hf.same
 refine⟨by rw[e];exact⟨rfl,rfl,rfl,rfl,rfl⟩,by rw[e];exact⟨rfl,rfl,rfl,rfl⟩,hv,fun a k=>k.perm hl hp,fun r hr=>⟨by omega,hp r⟩,?_,fun c hc=>.inl (by rw[e] at hc;exact hc)⟩
 have e1:R.1.words=S.words:=by rw[e];rfl
 have e2:lw R.1=lw S:=by unfold lw;rw[show R.1.learned=S.learned by rw[e];rfl]
 rw[e1,e2]
theorem along_beside {S T:SM} (h:Beside S T):Along S T:=by
 obtain⟨⟨a,b,c,va,le,re,t,en,e⟩,hv⟩:=h
 subst e
 exact⟨⟨rfl,rfl,rfl,rfl,rfl⟩,⟨rfl,rfl,rfl,rfl⟩,hv,fun _ h=>h,fun _ h=>⟨h,List.Perm.refl _⟩,rfl,fun _ h=>.inl h⟩
theorem along_sim {S T:SM} (h:Sim S T):Along S T:=by
 obtain⟨⟨a,b,c,u,st,e⟩,_,_⟩:=h
 subst e
 exact⟨⟨rfl,rfl,rfl,rfl,rfl⟩,⟨rfl,rfl,rfl,rfl⟩,rfl,fun _ h=>h,fun _ h=>⟨h,List.Perm.refl _⟩,rfl,fun _ h=>.inl h⟩
theorem along_back {S:SM} (h:FoI S) (k:Nat):Along S (S.back k):=by
 obtain⟨_,_,b3,_,ph,va,re,hl,pl,tr,en,nx,e⟩:=back_facts k h.hp.hi h.tr.sz h.tr.var_lt
 rw[e] at b3 ⊢
 exact⟨⟨rfl,rfl,rfl,rfl,rfl⟩,⟨rfl,rfl,rfl,rfl⟩,b3,fun _ h=>h,fun _ h=>⟨h,List.Perm.refl _⟩,rfl,fun _ h=>.inl h⟩
theorem sum_snoc (l:List (List Int)) (c:List Int):((l++[c]).map fun c=>c.length+2).sum=(l.map fun c=>c.length+2).sum+(c.length+2):=by
 rw[List.map_append,List.sum_append];simp
theorem along_keep {S:SM} (h:FoI S) {c:List Nat} {k:Nat} (fr:List Int) (hk:k<S.ends.length) (hnd:(c.map (·/2)).Nodup) (hno:∀ x∈c,2≤x∧x/2<S.value.length) (hc:∀ a,ModC a S→∃ l∈c,tr a l=true):Along S (S.keep c fr k):=by
 obtain⟨d,⟨⟨ph,va,re,le,hl,pl,mt,ws,st,e⟩,hv,_⟩,_⟩:=kept h (c:=c) fr hk
 obtain⟨T,hT⟩:∃ T,S.keep c fr k=T:=⟨_,rfl⟩
 rw[hT] at e hv ⊢
 have t3:T.cls=S.cls++[(c,d)]:=by rw[e]
 have hcl:∀ r,T.cl r=if r=S.cls.length then c else S.cl r:=fun r=>by
  rw[←attach_cl S c d r];unfold SM.cl;rw[t3,attach_cls]
 have hcll:T.cls.length=S.cls.length+1:=by rw[t3];simp
 refine⟨by rw[e];exact⟨rfl,rfl,rfl,rfl,rfl⟩,by rw[e];exact⟨rfl,rfl,rfl,rfl⟩,hv,fun a ha r hr=>?_,fun r hr=>⟨by omega,by rw[hcl,if_neg (by omega)]⟩,?_,fun x hx=>?_⟩
 ·rw[hcl]
  split
  ·exact hc a ha
  ·exact ha r (by omega)
 ·have e1:T.words=S.words+(c.length+2):=by rw[e]
  have e2:lw T=lw S+(c.length+2):=by unfold lw;rw[show T.learned=S.learned++[c.map numF] by rw[e],sum_snoc];simp
  omega
 ·rw[show T.learned=S.learned++[c.map numF] by rw[e]] at hx
  rcases List.mem_append.1 hx with hx | hx
  ·exact .inl hx
  ·rw[List.mem_singleton] at hx
   exact .inr ⟨c,hx,hnd,hno,hc⟩
theorem FoI.bkOk {S:SM} (h:FoI S) (he:S.ends.length≤900000):BkOk S:=by
 have hs:=h.hp.hi.hb.small
 have ht:=h.tr.len
 exact⟨h.hp.hi,h.tr.sz,h.tr.var_lt,by omega,he,fun k=>h.tr.ends _ (gn_mem _ _ k)⟩
theorem back_none {S:SM} {k:Nat} (h:S.ends.length≤k):S.back k=S:=by unfold SM.back;rw[if_pos h]
theorem SeI.back0 {asm:List Int} {K:Nat} {S:SM} (h:SeI asm K S):SeI asm K (S.back 0)∧Full (S.back 0)∧(S.next=S.trail.length→(S.back 0).next=(S.back 0).trail.length)∧(S.back 0).learned=S.learned∧(S.back 0).ends=[]:=by
 by_cases he:S.ends.length=0
 ·rw[back_none (by omega)]
  have:S.ends=[]:=List.length_eq_zero_iff.1 he
  exact⟨h,fun e k=>(by rw[this] at k;cases k),fun k=>k,rfl,this⟩
 ·have hk:0<S.ends.length:=by omega
  have hF:=h.fo.back hk
  have hbl:=fun {x:Nat} (hx:S.isL x≠0)=>(h.fo.tr.back_isL hk (x:=x) hx).1
  have hee:=h.fo.tr.ends _ (gn_mem _ _ hk)
  obtain⟨_,_,b3,_⟩:=back_facts 0 h.fo.hp.hi h.fo.tr.sz h.fo.tr.var_lt
  obtain⟨⟨ph,va,re,hl,pl,e⟩,_,_,_⟩:=back_by 0 h.fo.tr hk
  obtain⟨T,hT⟩:∃ T,S.back 0=T:=⟨_,rfl⟩
  rw[hT] at hF b3 e ⊢
  rw[hT] at hbl
  have t1:T.ends=[]:=by rw[e];simp[SM.wBk]
  have t2:T.trail=S.trail.take (gn S.ends 0):=by rw[e];rfl
  have t3:T.next=gn S.ends 0:=by rw[e];rfl
  have t4:T.level=S.level:=by rw[e];rfl
  have t5:T.cls=S.cls:=by rw[e];rfl
  have hx:=h.ex
  refine⟨⟨hF,⟨fun r hr=>by unfold SM.id;rw[t5] at hr ⊢;exact hx.ids r hr,by rw[b3,show T.steps=S.steps by rw[e];rfl,show T.units=S.units by rw[e];rfl,show T.words=S.words by rw[e];rfl];exact hx.pot,by rw[show T.words=S.words by rw[e];rfl,show T.most=S.most by rw[e];rfl];exact hx.wm,by rw[show T.most=S.most by rw[e];rfl];exact hx.mo,by rw[show T.fresh=S.fresh by rw[e];rfl,show T.given=S.given by rw[e];rfl];exact hx.fr,by rw[t5,show T.fresh=S.fresh by rw[e];rfl,show T.given=S.given by rw[e];rfl,show T.words=S.words by rw[e];rfl];exact hx.cn,hx.kk⟩,?_,?_,?_,?_,?_,?_,?_⟩,?_,?_,?_,t1⟩
  ·exact h.un.mono (by rw[t5]) (fun r=>by unfold SM.cl;rw[t5]) fun l p q=>⟨by rw[hbl (by omega) (by omega)];exact p,by rw[t4];exact q⟩
  ·intro i _ hie;rw[t1] at hie;cases hie
  ·intro k hk2;rw[t1] at hk2;simp at hk2
  ·intro k hk2;rw[t1] at hk2;simp at hk2
  ·rw[t1];simp
  ·rw[show T.learned=S.learned by rw[e];rfl,show T.conf=S.conf by rw[e];rfl];exact h.lc
  ·rw[show T.conf=S.conf by rw[e];rfl];exact h.cf
  ·intro x hx2;rw[t1] at hx2;cases hx2
  ·intro _;rw[t3,t2,List.length_take];omega
  ·rw[e];rfl
theorem FoI.told {S:SM} (h:FoI S) (c la:List Int) (t:Int) (m:List Bool):FoI { S with core:=c,last:=la,told:=t,model:=m }:=by
 exact⟨h.tr.congr ⟨h.tr.sz.level,h.tr.sz.reason,h.tr.sz.phase,h.tr.sz.occurs,h.tr.sz.units,h.tr.sz.watches⟩ rfl rfl rfl rfl rfl (Nat.le_refl _) (fun _ _ _=>Iff.rfl),⟨h.cl.nd,h.cl.two⟩,⟨h.wa.nd,h.wa.iff⟩,⟨⟨⟨h.hp.hi.hb.small,h.hp.hi.hb.vars,h.hp.hi.hb.place,h.hp.hi.hb.met,h.hp.hi.hb.hl⟩,h.hp.hi.pl,h.hp.hi.bk⟩,h.hp.nz,h.hp.all⟩,h.pi,h.ne,h.en⟩
theorem SeI.told {asm:List Int} {K:Nat} {S:SM} (h:SeI asm K S) (c la:List Int) (t:Int) (m:List Bool):SeI asm K { S with core:=c,last:=la,told:=t,model:=m } :=
 ⟨h.fo.told c la t m,⟨h.ex.ids,h.ex.pot,h.ex.wm,h.ex.mo,h.ex.fr,h.ex.cn,h.ex.kk⟩,h.un,h.re,h.at_,h.lv,h.lt,h.lc,h.cf⟩
theorem refused_unt {asm:List Int} {K:Nat} {S:SM} (h:SeI asm K S) (as2:List Int) (l:Nat):∃ T c la,Unt S T∧S.refused as2 l={ T with core:=c,last:=la,told:=2 }:=by
 have hs:=h.fo.hp.hi.hb.small
 obtain⟨_,b2,_⟩:=guilt_sub S S.trail.length ((List.replicate S.value.length false).set (l/2) true) [numF l] [] [] (Nat.le_refl _) fun v hv=>by cases hv
 obtain⟨G,hG⟩:∃ G,S.guiltGo S.trail.length ((List.replicate S.value.length false).set (l/2) true) [numF l] [] []=G:=⟨_,rfl⟩
 rw[hG] at b2
 have hu:=(unitAll_unt G.2.2 G.2.1 (unOk h.fo.tr h.fo.cl h.ex hs) b2 fun v hv=>rk_lt h.fo.tr hv).1
 refine⟨_,SM.coreGo G.1 [] as2,(S.unitAll G.2.2 G.2.1).2,hu,?_⟩
 rw[←hG];rfl
theorem ended_unt {K:Nat} {S:SM} (h:FoI S) (hx:ExI K S) {bad:Nat} (h0:S.ends.length=0) (hb:bad<S.cls.length) (hn:∀ x∈S.cl bad,S.isL x=-1):∃ T la,Unt S T∧S.ended bad={ T with core:=[],last:=la,told:=2 }:=by
 have hs:=h.hp.hi.hb.small
 have he:=h.enOk hx h0 hb hn
 have hu:=(unitAll_unt ((S.cl bad).map (·/2)) [S.id bad] he.un (fun v hv=>by
  obtain⟨x,hx,rfl⟩:=List.mem_map.1 hv
  exact he.z x hx) fun v hv=>he.rk v hv).1
 exact⟨_,(S.unitAll ((S.cl bad).map (·/2)) [S.id bad]).2,hu,rfl⟩
end Go.Proofs.YthbbmdnfkkffjaaGreat

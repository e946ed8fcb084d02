/-
  Parts of the proof, joined by program: Hp3, HpB, Hp4, StepA.
-/
import Derived.Test.YthbbmdnfkkffjaaGreatZ05
import Derived.Test.YthbbmdnfkkffjaaGreatZ02
import Derived.Laws.Bits64
import Derived.WalkLawsBesides
import Derived.BigRegion
import Derived.Deep.RegionHeld
namespace Go.Proofs.YthbbmdnfkkffjaaGreat
open Go.RowKit Go.Proofs.PlaitSep Go.Proofs.PlaitPure Go.Proofs.PlaitSat
section
variable {B:Nat} {w0 w:World} {p:Nat} {M:MM} {F:HP}
theorem child_of {S:SM} {j k:Nat} (hk:2*j+1=k):S.child j=if (decide (k+1<S.hl.length)&&S.ahead (gn S.hl (k+1)) (gn S.hl k))=true then k+1 else k:=by
 subst hk
 rfl
set_option maxRecDepth 100000 in
set_option maxHeartbeats 2000000 in
theorem down_any (i:Nat) (h:At B w0 w p M F) (hb:HB M.sv) (hi:i<M.hl.xs.length) :
  Calls Tryz.prog 107 #[.pointer (some ⟨p,15,none⟩),.int .i64 i] w fun e w'=>e=.returned (.tuple #[])∧HeapAt B w0 w' p M F (M.sv.down i):=by
 obtain⟨N,hN⟩:∃ N,M.value.xs.length=N:=⟨_,rfl⟩
 have hv:∀ x∈M.hl.xs,x<N:=by rw[←hN];exact hb.vars
 have hpl:M.place.xs.length=N:=by rw[←hN];exact hb.place
 have hmt:M.met.xs.length=N:=by rw[←hN];exact hb.met
 have hhl:M.hl.xs.length≤N:=by rw[←hN];exact hb.hl
 have hsm:N≤100000:=by rw[←hN];exact hb.small
 obtain⟨ln,hln⟩:∃ ln,M.hl.xs.length=ln:=⟨_,rfl⟩
 obtain⟨bh,hbh⟩:=h.b_hl (by omega)
 obtain⟨d1,d2⟩:=h.r_hl hbh (gn_some M.hl.xs i hi)
 have c1:=h.c_hl
 rw[hbh] at c1
 simp only[Option.map_some,vN] at c1 d1
 have hvv:gn M.hl.xs i<N:=hv _ (gn_mem _ _ hi)
 have hup:SM.downGo ln M.sv (gn M.hl.xs i) i=M.sv.down i:=by rw[←hln];rfl
 obtain⟨v,hvd⟩:∃ v,gn M.hl.xs i=v:=⟨_,rfl⟩
 rw[hvd] at d1 hvv hup
 rw[hln] at c1 hi hhl
 have H:=Lib.hid h
 have HV:=Lib.hid hv
 have HLN:=Lib.hid hln
 have HPL:=Lib.hid hpl
 have HMT:=Lib.hid hmt
 have HUP:=Lib.hid hup
 have i0:(0:Int)≤(i:Int):=by omega
 have i1:(i:Int)<(ln:Int):=by omega
 clear h hb hN hv hpl hmt hbh hln hvd hup
 go_enter Tryz.func107,Tryz.ntmps107
 go_wp2
 go_loopw [1] (fun s1 wr=>∃ (j f:Nat) (a b:Fl Nat),s1=.int .i64 j∧j<ln∧ln≤j+f∧Hid (a.xs.length=ln)∧Hid (b.xs.length=N)∧Hid (∀ x∈a.xs,x<N)∧Hid (At B w0 wr p (M.u_lay a b) F) ∧
  Hid (SM.downGo f (MM.sv (M.u_lay a b)) v j=M.sv.down i)) (fun s1 _=>ln-(intOf s1).toNat)
 case atStart=>exact⟨i,ln,M.hl,M.place,rfl,hi,by omega,HLN.out,HPL.out,HV.out,H.out,HUP.out⟩
 case round =>
  obtain⟨j,f0,a,b,rfl,hj,hjf,HA,HB,HAV,H2,HG⟩:=hrel
  obtain⟨f,rfl⟩:∃ f,f0=f+1:=⟨f0-1,by omega⟩
  obtain⟨ba,hba⟩:=H2.out.b_hl (by show 0<a.xs.length;rw[HA.out];omega)
  have c3:=H2.out.c_hl
  rw[hba] at c3
  simp only[Option.map_some] at c3
  rw[HA.out] at c3
  by_cases hend:ln≤2*j+1
  ·have e1:decide ((ln:Int)≤2*(j:Int)+1)=true:=by simp;omega
   have hst:=HG.out
   rw[SM.downGo,if_pos (by show a.xs.length≤_;rw[HA.out];exact hend)] at hst
   have HL:=Lib.hid (lay_any j v H2.out (by show j<a.xs.length;rw[HA.out];exact hj) (by show v<b.xs.length;rw[HB.out];exact hvv) (by show a.xs.length≤_;rw[HA.out];omega) (by show b.xs.length≤_;rw[HB.out];omega))
   rw[hst] at HL
   clear hst hba
   go_wp2_with fail
   refine HL.out.mono ?_
   rintro e w2 ⟨rfl,h2⟩
   have HH:=Lib.hid h2
   clear h2
   go_wp2
   go_end0
   obtain⟨a2,b2,h3,h4⟩:=HH.out
   exact⟨rfl,a2,b2,M.met,h3,h4⟩
  ·have e1:decide ((ln:Int)≤2*(j:Int)+1)=false:=by simp;omega
   obtain⟨k,hk⟩:∃ k,2*j+1=k:=⟨_,rfl⟩
   have hki:2*(j:Int)+1=(k:Int):=by omega
   have hkl:k<ln:=by omega
   have hkj:j<k:=by omega
   have e1:decide ((ln:Int)≤(k:Int))=false:=by simp;omega
   have hsl:=hba
   obtain⟨d3,_⟩:=H2.out.r_hl hba (gn_some a.xs k (by rw[HA.out];omega))
   simp only[vN] at d3
   obtain⟨y0,hy0⟩:∃ y,gn a.xs k=y:=⟨_,rfl⟩
   have hyN:gn a.xs k<N:=HAV.out _ (gn_mem _ _ (by rw[HA.out];omega))
   rw[hy0] at d3 hyN
   have HY:=Lib.hid hy0
   have kk0:(0:Int)≤(k:Int):=by omega
   have kk1:(k:Int)<(ln:Int):=by omega
   clear hy0
   by_cases hsec:k+1<ln
   ·have e2:decide ((k:Int)+1<(ln:Int))=true:=by simp;omega
    have q0:(0:Int)≤(k:Int)+1:=by omega
    have q1:(k:Int)+1<(ln:Int):=by omega
    obtain⟨d4,_⟩:=H2.out.r_hl hba (gn_some a.xs (k+1) (by rw[HA.out];omega))
    simp only[vN] at d4
    obtain⟨z0,hz0⟩:∃ z,gn a.xs (k+1)=z:=⟨_,rfl⟩
    have hzN:gn a.xs (k+1)<N:=HAV.out _ (gn_mem _ _ (by rw[HA.out];omega))
    rw[hz0] at d4 hzN
    have HZ:=Lib.hid hz0
    obtain⟨g,hg⟩:∃ g,(MM.sv (M.u_lay a b)).ahead z0 y0=g:=⟨_,rfl⟩
    have HQ:=Lib.hid (ahead_q z0 y0 H2.out (by show z0<M.met.xs.length;rw[HMT.out];exact hzN) (by show y0<M.met.xs.length;rw[HMT.out];exact hyN) (by show M.met.xs.length≤_;rw[HMT.out];omega) g hg)
    have HG0:=Lib.hid hg
    clear hz0 hg hba
    go_wp2_with fail
    go_quiet ((go_at_call 114;exact HQ.out _))
    cases g with
    | true =>
     have HCH:=Lib.hid (show (MM.sv (M.u_lay a b)).child j=k+1 by
      rw[child_of hk]
      show (if (decide (k+1<a.xs.length)&&(MM.sv (M.u_lay a b)).ahead (gn a.xs (k+1)) (gn a.xs k))=true then k+1 else k)=k+1
      rw[HZ.out,HY.out,HG0.out,HA.out]
      simp[hsec])
     have H3:=Lib.hid (H2.out.drewN nq)
     clear d3 d4 c3 e1 e2
     obtain⟨ba,hba⟩:=H3.out.b_hl (by show 0<a.xs.length;rw[HA.out];omega)
     obtain⟨d5,_⟩:=H3.out.r_hl hba (gn_some a.xs (k+1) (by rw[HA.out];omega))
     have c5:=H3.out.c_hl
     rw[hba] at c5
     simp only[Option.map_some,vN] at c5 d5
     rw[HA.out] at c5
     have hxN:gn a.xs (k+1)<N:=HAV.out _ (gn_mem _ _ (by rw[HA.out];omega))
     obtain⟨x,hx⟩:∃ x,gn a.xs (k+1)=x:=⟨_,rfl⟩
     rw[hx] at d5 hxN
     have HX:=Lib.hid hx
     have HAH:=Lib.hid (ahead_any x v H3.out (by show x<M.met.xs.length;rw[HMT.out];exact hxN) (by show v<M.met.xs.length;rw[HMT.out];exact hvv) (by show M.met.xs.length≤_;rw[HMT.out];omega))
     obtain⟨ah,hah⟩:∃ ah,(MM.sv (M.u_lay a b)).ahead x v=ah:=⟨_,rfl⟩
     rw[hah] at HAH
     have HAHD:=Lib.hid hah
     have k0:(0:Int)≤((k+1:Nat):Int):=by omega
     have k1:((k+1:Nat):Int)<(ln:Int):=by omega
     have HST:=Lib.hid (show (if ah=true then SM.downGo f ((MM.sv (M.u_lay a b)).lay j x) v (k+1) else (MM.sv (M.u_lay a b)).lay j v)=M.sv.down i by
      have hst:=HG.out
      rw[SM.downGo,if_neg (by show ¬ a.xs.length≤2*j+1;rw[HA.out];omega),HCH.out,show gn (MM.sv (M.u_lay a b)).hl (k+1)=x from HX.out,hah] at hst
      exact hst)
     clear hx hba hah d1 d2 c1
     go_wp2_with fail
     refine HAH.out.mono ?_
     rintro e w4 ⟨rfl,hd⟩
     have H4:=Lib.hid (H3.out.drawn hd)
     clear hd HAH
     cases ah with
     | false =>
      have hst:=HST.out
      rw[if_neg (by simp)] at hst
      have HL:=Lib.hid (lay_any j v H4.out (by show j<a.xs.length;rw[HA.out];exact hj) (by show v<b.xs.length;rw[HB.out];exact hvv) (by show a.xs.length≤_;rw[HA.out];omega) (by show b.xs.length≤_;rw[HB.out];omega))
      rw[hst] at HL
      clear hst
      go_wp2_with fail
      refine HL.out.mono ?_
      rintro e w5 ⟨rfl,h2⟩
      have HH:=Lib.hid h2
      clear h2
      go_wp2
      go_end0
      obtain⟨a2,b2,h3,h4⟩:=HH.out
      exact⟨rfl,a2,b2,M.met,h3,h4⟩
     | true =>
      have hst:=HST.out
      rw[if_pos rfl] at hst
      have HST2:=Lib.hid hst
      obtain⟨ba2,hba2⟩:=H4.out.b_hl (by show 0<a.xs.length;rw[HA.out];omega)
      obtain⟨d6,_⟩:=H4.out.r_hl hba2 (gn_some a.xs (k+1) (by rw[HA.out];omega))
      have c6:=H4.out.c_hl
      rw[hba2] at c6
      simp only[Option.map_some,vN] at c6 d6
      rw[HA.out] at c6
      rw[HX.out] at d6
      have HL:=Lib.hid (lay_any j x H4.out (by show j<a.xs.length;rw[HA.out];exact hj) (by show x<b.xs.length;rw[HB.out];exact hxN) (by show a.xs.length≤_;rw[HA.out];omega) (by show b.xs.length≤_;rw[HB.out];omega))
      clear hst hba2 c5 d5
      go_wp2_with fail
      refine HL.out.mono ?_
      rintro e w5 ⟨rfl,a2,b2,h3,h4⟩
      have ha2:a2.xs=a.xs.set j x:=congrArg SM.hl h4
      have hb2:b2.xs=b.xs.set x (j+1):=congrArg SM.place h4
      have H5:=Lib.hid h3
      have HA2:=Lib.hid (show a2.xs.length=ln by rw[ha2,List.length_set];exact HA.out)
      have HB2:=Lib.hid (show b2.xs.length=N by rw[hb2,List.length_set];exact HB.out)
      have HV2:=Lib.hid (show ∀ y∈a2.xs,y<N by rw[ha2];exact vars_set HAV.out hxN)
      have HG2:=Lib.hid (show SM.downGo f (MM.sv (M.u_lay a2 b2)) v (k+1)=M.sv.down i by rw[←HST2.out,←h4])
      clear HL h3 h4 ha2 hb2
      go_wp2
      go_roundw
      case rel=>exact⟨k+1,f,a2,b2,by go_num,by omega,by omega,HA2.out,HB2.out,HV2.out,H5.out,HG2.out⟩
      case measure=>simp[intOf];omega
    | false =>
     have HCH:=Lib.hid (show (MM.sv (M.u_lay a b)).child j=k by
      rw[child_of hk]
      show (if (decide (k+1<a.xs.length)&&(MM.sv (M.u_lay a b)).ahead (gn a.xs (k+1)) (gn a.xs k))=true then k+1 else k)=k
      rw[HZ.out,HY.out,HG0.out,HA.out]
      simp)
     have H3:=Lib.hid (H2.out.drewN nq)
     clear d3 d4 c3 e1 e2
     obtain⟨ba,hba⟩:=H3.out.b_hl (by show 0<a.xs.length;rw[HA.out];omega)
     obtain⟨d5,_⟩:=H3.out.r_hl hba (gn_some a.xs k (by rw[HA.out];omega))
     have c5:=H3.out.c_hl
     rw[hba] at c5
     simp only[Option.map_some,vN] at c5 d5
     rw[HA.out] at c5
     have hxN:gn a.xs k<N:=HAV.out _ (gn_mem _ _ (by rw[HA.out];omega))
     obtain⟨x,hx⟩:∃ x,gn a.xs k=x:=⟨_,rfl⟩
     rw[hx] at d5 hxN
     have HX:=Lib.hid hx
     have HAH:=Lib.hid (ahead_any x v H3.out (by show x<M.met.xs.length;rw[HMT.out];exact hxN) (by show v<M.met.xs.length;rw[HMT.out];exact hvv) (by show M.met.xs.length≤_;rw[HMT.out];omega))
     obtain⟨ah,hah⟩:∃ ah,(MM.sv (M.u_lay a b)).ahead x v=ah:=⟨_,rfl⟩
     rw[hah] at HAH
     have HAHD:=Lib.hid hah
     have k0:(0:Int)≤(k:Int):=by omega
     have k1:(k:Int)<(ln:Int):=by omega
     have HST:=Lib.hid (show (if ah=true then SM.downGo f ((MM.sv (M.u_lay a b)).lay j x) v k else (MM.sv (M.u_lay a b)).lay j v)=M.sv.down i by
      have hst:=HG.out
      rw[SM.downGo,if_neg (by show ¬ a.xs.length≤2*j+1;rw[HA.out];omega),HCH.out,show gn (MM.sv (M.u_lay a b)).hl k=x from HX.out,hah] at hst
      exact hst)
     clear hx hba hah d1 d2 c1
     go_wp2_with fail
     refine HAH.out.mono ?_
     rintro e w4 ⟨rfl,hd⟩
     have H4:=Lib.hid (H3.out.drawn hd)
     clear hd HAH
     cases ah with
     | false =>
      have hst:=HST.out
      rw[if_neg (by simp)] at hst
      have HL:=Lib.hid (lay_any j v H4.out (by show j<a.xs.length;rw[HA.out];exact hj) (by show v<b.xs.length;rw[HB.out];exact hvv) (by show a.xs.length≤_;rw[HA.out];omega) (by show b.xs.length≤_;rw[HB.out];omega))
      rw[hst] at HL
      clear hst
      go_wp2_with fail
      refine HL.out.mono ?_
      rintro e w5 ⟨rfl,h2⟩
      have HH:=Lib.hid h2
      clear h2
      go_wp2
      go_end0
      obtain⟨a2,b2,h3,h4⟩:=HH.out
      exact⟨rfl,a2,b2,M.met,h3,h4⟩
     | true =>
      have hst:=HST.out
      rw[if_pos rfl] at hst
      have HST2:=Lib.hid hst
      obtain⟨ba2,hba2⟩:=H4.out.b_hl (by show 0<a.xs.length;rw[HA.out];omega)
      obtain⟨d6,_⟩:=H4.out.r_hl hba2 (gn_some a.xs k (by rw[HA.out];omega))
      have c6:=H4.out.c_hl
      rw[hba2] at c6
      simp only[Option.map_some,vN] at c6 d6
      rw[HA.out] at c6
      rw[HX.out] at d6
      have HL:=Lib.hid (lay_any j x H4.out (by show j<a.xs.length;rw[HA.out];exact hj) (by show x<b.xs.length;rw[HB.out];exact hxN) (by show a.xs.length≤_;rw[HA.out];omega) (by show b.xs.length≤_;rw[HB.out];omega))
      clear hst hba2 c5 d5
      go_wp2_with fail
      refine HL.out.mono ?_
      rintro e w5 ⟨rfl,a2,b2,h3,h4⟩
      have ha2:a2.xs=a.xs.set j x:=congrArg SM.hl h4
      have hb2:b2.xs=b.xs.set x (j+1):=congrArg SM.place h4
      have H5:=Lib.hid h3
      have HA2:=Lib.hid (show a2.xs.length=ln by rw[ha2,List.length_set];exact HA.out)
      have HB2:=Lib.hid (show b2.xs.length=N by rw[hb2,List.length_set];exact HB.out)
      have HV2:=Lib.hid (show ∀ y∈a2.xs,y<N by rw[ha2];exact vars_set HAV.out hxN)
      have HG2:=Lib.hid (show SM.downGo f (MM.sv (M.u_lay a2 b2)) v k=M.sv.down i by rw[←HST2.out,←h4])
      clear HL h3 h4 ha2 hb2
      go_wp2
      go_roundw
      case rel=>exact⟨k,f,a2,b2,by go_num,by omega,by omega,HA2.out,HB2.out,HV2.out,H5.out,HG2.out⟩
      case measure=>simp[intOf];omega
   ·have e2:decide ((k:Int)+1<(ln:Int))=false:=by simp;omega
    go_wp2_with fail
    go_quiet (fail)
    have HCH:=Lib.hid (show (MM.sv (M.u_lay a b)).child j=k by
     rw[child_of hk]
     show (if (decide (k+1<a.xs.length)&&(MM.sv (M.u_lay a b)).ahead (gn a.xs (k+1)) (gn a.xs k))=true then k+1 else k)=k
     rw[HA.out]
     simp[hsec])
    have H3:=Lib.hid (H2.out.drewN nq)
    clear d3 c3 e1 e2 hba
    obtain⟨ba,hba⟩:=H3.out.b_hl (by show 0<a.xs.length;rw[HA.out];omega)
    obtain⟨d5,_⟩:=H3.out.r_hl hba (gn_some a.xs k (by rw[HA.out];omega))
    have c5:=H3.out.c_hl
    rw[hba] at c5
    simp only[Option.map_some,vN] at c5 d5
    rw[HA.out] at c5
    have hxN:gn a.xs k<N:=HAV.out _ (gn_mem _ _ (by rw[HA.out];omega))
    obtain⟨x,hx⟩:∃ x,gn a.xs k=x:=⟨_,rfl⟩
    rw[hx] at d5 hxN
    have HX:=Lib.hid hx
    have HAH:=Lib.hid (ahead_any x v H3.out (by show x<M.met.xs.length;rw[HMT.out];exact hxN) (by show v<M.met.xs.length;rw[HMT.out];exact hvv) (by show M.met.xs.length≤_;rw[HMT.out];omega))
    obtain⟨ah,hah⟩:∃ ah,(MM.sv (M.u_lay a b)).ahead x v=ah:=⟨_,rfl⟩
    rw[hah] at HAH
    have HAHD:=Lib.hid hah
    have k0:(0:Int)≤(k:Int):=by omega
    have k1:(k:Int)<(ln:Int):=by omega
    have HST:=Lib.hid (show (if ah=true then SM.downGo f ((MM.sv (M.u_lay a b)).lay j x) v k else (MM.sv (M.u_lay a b)).lay j v)=M.sv.down i by
     have hst:=HG.out
     rw[SM.downGo,if_neg (by show ¬ a.xs.length≤2*j+1;rw[HA.out];omega),HCH.out,show gn (MM.sv (M.u_lay a b)).hl k=x from HX.out,hah] at hst
     exact hst)
    clear hx hba hah d1 d2 c1
    go_wp2_with fail
    refine HAH.out.mono ?_
    rintro e w4 ⟨rfl,hd⟩
    have H4:=Lib.hid (H3.out.drawn hd)
    clear hd HAH
    cases ah with
    | false =>
     have hst:=HST.out
     rw[if_neg (by simp)] at hst
     have HL:=Lib.hid (lay_any j v H4.out (by show j<a.xs.length;rw[HA.out];exact hj) (by show v<b.xs.length;rw[HB.out];exact hvv) (by show a.xs.length≤_;rw[HA.out];omega) (by show b.xs.length≤_;rw[HB.out];omega))
     rw[hst] at HL
     clear hst
     go_wp2_with fail
     refine HL.out.mono ?_
     rintro e w5 ⟨rfl,h2⟩
     have HH:=Lib.hid h2
     clear h2
     go_wp2
     go_end0
     obtain⟨a2,b2,h3,h4⟩:=HH.out
     exact⟨rfl,a2,b2,M.met,h3,h4⟩
    | true =>
     have hst:=HST.out
     rw[if_pos rfl] at hst
     have HST2:=Lib.hid hst
     obtain⟨ba2,hba2⟩:=H4.out.b_hl (by show 0<a.xs.length;rw[HA.out];omega)
     obtain⟨d6,_⟩:=H4.out.r_hl hba2 (gn_some a.xs k (by rw[HA.out];omega))
     have c6:=H4.out.c_hl
     rw[hba2] at c6
     simp only[Option.map_some,vN] at c6 d6
     rw[HA.out] at c6
     rw[HX.out] at d6
     have HL:=Lib.hid (lay_any j x H4.out (by show j<a.xs.length;rw[HA.out];exact hj) (by show x<b.xs.length;rw[HB.out];exact hxN) (by show a.xs.length≤_;rw[HA.out];omega) (by show b.xs.length≤_;rw[HB.out];omega))
     clear hst hba2 c5 d5
     go_wp2_with fail
     refine HL.out.mono ?_
     rintro e w5 ⟨rfl,a2,b2,h3,h4⟩
     have ha2:a2.xs=a.xs.set j x:=congrArg SM.hl h4
     have hb2:b2.xs=b.xs.set x (j+1):=congrArg SM.place h4
     have H5:=Lib.hid h3
     have HA2:=Lib.hid (show a2.xs.length=ln by rw[ha2,List.length_set];exact HA.out)
     have HB2:=Lib.hid (show b2.xs.length=N by rw[hb2,List.length_set];exact HB.out)
     have HV2:=Lib.hid (show ∀ y∈a2.xs,y<N by rw[ha2];exact vars_set HAV.out hxN)
     have HG2:=Lib.hid (show SM.downGo f (MM.sv (M.u_lay a2 b2)) v k=M.sv.down i by rw[←HST2.out,←h4])
     clear HL h3 h4 ha2 hb2
     go_wp2
     go_roundw
     case rel=>exact⟨k,f,a2,b2,by go_num,by omega,by omega,HA2.out,HB2.out,HV2.out,H5.out,HG2.out⟩
     case measure=>simp[intOf];omega
end
end Go.Proofs.YthbbmdnfkkffjaaGreat
namespace Go.Proofs.YthbbmdnfkkffjaaGreat
open Go.Proofs.PlaitPure Go.Proofs.PlaitSat
theorem gn_lt {l:List Nat} {n k:Nat} (h:∀ x∈l,x<n) (hn:0<n):gn l k<n:=by
 by_cases hk:k<l.length
 ·exact h _ (gn_mem l k hk)
 ·simp[gn,List.getD_eq_getElem?_getD,List.getElem?_eq_none (Nat.le_of_not_lt hk),hn]
theorem HB.lay {S:SM} (h:HB S) {i v:Nat} (hv:v<S.value.length):HB (S.lay i v):=by
 refine⟨h.small,fun x hx=>?_,by show (S.place.set v (i+1)).length=_;rw[List.length_set];exact h.place,h.met,by show (S.hl.set i v).length≤_;rw[List.length_set];exact h.hl⟩
 rcases List.mem_or_eq_of_mem_set hx with h1 | rfl
 ·exact h.vars x h1
 ·exact hv
theorem HB.upGo:∀ (f:Nat) {S:SM} {v i:Nat},HB S→v<S.value.length→HB (SM.upGo f S v i)
 | 0,S,v,i,h,hv=>h.lay hv
 | f+1,S,v,i,h,hv=>by
  rw[SM.upGo]
  split
  ·exact HB.upGo f (h.lay (gn_lt h.vars (by omega))) hv
  ·exact h.lay hv
theorem HB.downGo:∀ (f:Nat) {S:SM} {v i:Nat},HB S→v<S.value.length→HB (SM.downGo f S v i)
 | 0,S,v,i,h,hv=>h.lay hv
 | f+1,S,v,i,h,hv=>by
  rw[SM.downGo]
  split
  ·exact h.lay hv
  ·split
   ·exact HB.downGo f (h.lay (gn_lt h.vars (by omega))) hv
   ·exact h.lay hv
theorem upGo_hl:∀ (f:Nat) {S:SM} {v i:Nat},(SM.upGo f S v i).hl.length=S.hl.length
 | 0,S,v,i=>by show (S.hl.set i v).length=_;rw[List.length_set]
 | f+1,S,v,i=>by
  rw[SM.upGo]
  split
  ·rw[upGo_hl f];show (S.hl.set _ _).length=_;rw[List.length_set]
  ·show (S.hl.set i v).length=_;rw[List.length_set]
theorem downGo_hl:∀ (f:Nat) {S:SM} {v i:Nat},(SM.downGo f S v i).hl.length=S.hl.length
 | 0,S,v,i=>by show (S.hl.set i v).length=_;rw[List.length_set]
 | f+1,S,v,i=>by
  rw[SM.downGo]
  split
  ·show (S.hl.set i v).length=_;rw[List.length_set]
  ·split
   ·rw[downGo_hl f];show (S.hl.set _ _).length=_;rw[List.length_set]
   ·show (S.hl.set i v).length=_;rw[List.length_set]
theorem HB.up {S:SM} (h:HB S) {i:Nat} (hi:i<S.hl.length):HB (S.up i):=h.upGo _ (h.vars _ (gn_mem _ _ hi))
theorem HB.down {S:SM} (h:HB S) {i:Nat} (hi:i<S.hl.length):HB (S.down i):=h.downGo _ (h.vars _ (gn_mem _ _ hi))
end Go.Proofs.YthbbmdnfkkffjaaGreat
namespace Go.Proofs.YthbbmdnfkkffjaaGreat
open Go.RowKit Go.Proofs.PlaitSep Go.Proofs.PlaitPure Go.Proofs.PlaitSat
theorem Tryz.infoIntS:(Tryz.prog.info? 3).map (fun i=>(i.zero,i.size,i.bytes))=some (some (.int .i64 0),1,8):=by kernel_rfl
section
variable {B:Nat} {w0 w:World} {p:Nat} {M:MM} {F:HP}
set_option maxRecDepth 100000 in
set_option maxHeartbeats 2000000 in
theorem put_any (v:Nat) (h:At B w0 w p M F) (hb:HB M.sv) (hv:v<M.value.xs.length) (hroom:gn M.place.xs v=0→M.hl.xs.length<M.value.xs.length) :
  Calls Tryz.prog 86 #[.pointer (some ⟨p,15,none⟩),.int .i64 v] w fun e w'=>e=.returned (.tuple #[])∧HeapAt B w0 w' p M F (M.sv.put v):=by
 obtain⟨N,hN⟩:∃ N,M.value.xs.length=N:=⟨_,rfl⟩
 have hpl:M.place.xs.length=N:=by rw[←hN];exact hb.place
 have hsm:N≤100000:=by rw[←hN];exact hb.small
 rw[hN] at hroom hv
 obtain⟨bp,hbp⟩:=h.b_place (by omega)
 obtain⟨d1,_⟩:=h.r_place hbp (gn_some M.place.xs v (by omega))
 have c1:=h.c_place
 rw[hbp,hpl] at c1
 simp only[Option.map_some,vN] at c1 d1
 have hput:M.sv.put v=if gn M.place.xs v=0 then SM.up (MM.sv (M.u_hl ⟨M.hl.a,M.hl.c,M.hl.xs++[v]⟩)) M.hl.xs.length else M.sv:=rfl
 obtain⟨x,hx⟩:∃ x,gn M.place.xs v=x:=⟨_,rfl⟩
 rw[hx] at d1 hput hroom
 obtain⟨ln,hln⟩:∃ ln,M.hl.xs.length=ln:=⟨_,rfl⟩
 have c2:=h.c_hl
 have t2:=h.t_hl
 rw[hln] at c2 hput hroom t2
 have H:=Lib.hid h
 have HBH:=Lib.hid hb
 have HLN:=Lib.hid hln
 have HN:=Lib.hid hN
 have HT2:=Lib.hid t2
 have v0:(0:Int)≤(v:Int):=by omega
 have v1:(v:Int)<(N:Int):=by omega
 by_cases hx0:x=0
 ·subst hx0
  rw[if_pos rfl] at hput
  have hr:=hroom rfl
  have HPUT:=Lib.hid hput
  clear h hb hN hpl hx hln t2 hput hroom hbp
  go_enter Tryz.func86,Tryz.ntmps86
  go_wp2_with (at_builtin;refine wpList_append1 rfl _ _ 27 3 (.int .i64 0) 8 rfl Tryz.underlying27 Tryz.infoIntS rfl HT2.out rfl (.int .i64 v) rfl rfl (by omega) (by simp only[maxLen];omega) ?_;intro b' c' w2 h2;have h3:=At.push_hl (x:=v) H.out.lastN HLN.out h2;have H3:=Lib.hid h3;clear h2 h3;obtain⟨c3,f3⟩:=H3.out.1)
  have hb3:HB (MM.sv (M.u_hl ⟨some b',c',M.hl.xs++[v]⟩)):=by
   refine⟨HBH.out.small,?_,HBH.out.place,HBH.out.met,?_⟩
   ·intro y hy
    rcases List.mem_append.1 (show y∈M.hl.xs++[v] from hy) with hy | hy
    ·exact HBH.out.vars y hy
    ·rw[List.mem_singleton.1 hy];show v<M.value.xs.length;rw[HN.out];exact hv
   ·show (M.hl.xs++[v]).length≤M.value.xs.length
    rw[List.length_append,HLN.out,HN.out]
    simp
    omega
  refine (up_any ln H3.out.2 hb3 (by show ln<(M.hl.xs++[v]).length;rw[List.length_append,HLN.out];simp)).mono ?_
  rintro e w4 ⟨rfl,a2,b2,m2,h4,h5⟩
  have H4:=Lib.hid h4
  have H5:=Lib.hid h5
  clear hb3 h4 h5
  go_wp2
  go_end0
  exact⟨rfl,a2,b2,m2,H4.out,H5.out.trans HPUT.out.symm⟩
 ·have e1:((x:Int)==0)=false:=by simp;omega
  rw[if_neg hx0] at hput
  have HPUT:=Lib.hid hput
  clear h hb hN hpl hx hln t2 hput hroom hbp
  go_enter Tryz.func86,Tryz.ntmps86
  go_wp2
  go_end0
  exact⟨rfl,M.hl,M.place,M.met,H.out,HPUT.out.symm⟩
set_option maxRecDepth 100000 in
set_option maxHeartbeats 2000000 in
theorem meet_any (v:Nat) (h:At B w0 w p M F) (hb:HB M.sv) (hv:v<M.value.xs.length) (hpl2:∀ x,gn M.place.xs v=x+1→x<M.hl.xs.length) :
  Calls Tryz.prog 116 #[.pointer (some ⟨p,15,none⟩),.int .i64 v,.int .u64 1] w fun e w'=>e=.returned (.tuple #[])∧HeapAt B w0 w' p M F (M.sv.meet v):=by
 obtain⟨N,hN⟩:∃ N,M.value.xs.length=N:=⟨_,rfl⟩
 have hpl:M.place.xs.length=N:=by rw[←hN];exact hb.place
 have hml:M.met.xs.length=N:=by rw[←hN];exact hb.met
 have hsm:N≤100000:=by rw[←hN];exact hb.small
 rw[hN] at hv
 obtain⟨bp,hbp⟩:=h.b_place (by omega)
 obtain⟨bm,hbm⟩:=h.b_met (by omega)
 obtain⟨d1,_⟩:=h.r_place hbp (gn_some M.place.xs v (by omega))
 obtain⟨d2,d3⟩:=h.r_met hbm (gn_some M.met.xs v (by omega))
 have c1:=h.c_place
 have c2:=h.c_met
 rw[hbp,hpl] at c1
 rw[hbm,hml] at c2
 simp only[Option.map_some,vN,v64] at c1 c2 d1 d2
 have hbu:M.sv.meet v=if gn M.place.xs v=0 then M.sv.bump v else (M.sv.bump v).up (gn M.place.xs v-1):=rfl
 have hbv:M.sv.bump v=MM.sv (M.u_met ⟨M.met.a,M.met.c,M.met.xs.set v ((gn M.met.xs v+1) % 18446744073709551616)⟩):=rfl
 obtain⟨x,hx⟩:∃ x,gn M.place.xs v=x:=⟨_,rfl⟩
 obtain⟨y,hy⟩:∃ y,gn M.met.xs v=y:=⟨_,rfl⟩
 obtain⟨z,hz⟩:∃ z,(y+1) % 18446744073709551616=z:=⟨_,rfl⟩
 rw[hx] at d1 hbu hpl2
 rw[hy] at d2 hbv
 rw[hz] at hbv
 have hwr:IntKind.u64.wrap ((y:Int)+1)=(z:Int):=by rw[IntKind.wrap_u64];omega
 have n1:¬ bp=bm:=h.ne2 (i:=9) (j:=10) rfl rfl (by decide) hbp hbm
 have n2:¬ bm=bp:=fun e=>n1 e.symm
 have n3:¬ bm=p:=h.n_met hbm
 have n4:¬ bp=p:=h.n_place hbp
 have H:=Lib.hid h
 have HBH:=Lib.hid hb
 have HN:=Lib.hid hN
 have HML:=Lib.hid hml
 have HBM:=Lib.hid hbm
 have HBU:=Lib.hid hbu
 have HBV:=Lib.hid hbv
 have HZ:=Lib.hid hz
 have v0:(0:Int)≤(v:Int):=by omega
 have v1:(v:Int)<(N:Int):=by omega
 clear h hb hN hpl hml hx hy hbp hbm hbu hbv hz
 have HM1:=Lib.hid (H.out.set_met HBM.out (by rw[HML.out];omega) z)
 by_cases hx0:x=0
 ·subst hx0
  go_enter Tryz.func116,Tryz.ntmps116
  go_wp2
  go_end0
  refine⟨rfl,M.hl,M.place,_,HM1.out,?_⟩
  rw[HBU.out,if_pos trivial,HBV.out]
 ·obtain⟨k,hk1⟩:∃ k,x=k+1:=⟨x-1,by omega⟩
  have hk:=hpl2 k hk1
  have e1:decide ((0:Int)<(x:Int))=true:=by simp;omega
  have e2:(x:Int)-1=(k:Int):=by omega
  have hkb:k≤100000:=by have h1:M.hl.xs.length≤M.value.xs.length:=HBH.out.hl;have h2:=HN.out;omega
  have HK:=Lib.hid hk
  have HK1:=Lib.hid hk1
  clear hpl2 hk hk1
  go_enter Tryz.func116,Tryz.ntmps116
  go_wp2_with fail
  refine (up_any k HM1.out ⟨HBH.out.small,HBH.out.vars,HBH.out.place,by show (M.met.xs.set v z).length=_;rw[List.length_set];exact HBH.out.met,HBH.out.hl⟩ HK.out).mono ?_
  rintro e w4 ⟨rfl,a2,b2,m2,h4,h5⟩
  have H4:=Lib.hid h4
  have H5:=Lib.hid h5
  clear h4 h5
  go_wp2
  go_end0
  refine⟨rfl,a2,b2,m2,H4.out,H5.out.trans ?_⟩
  rw[HBU.out,if_neg hx0,HBV.out,HK1.out]
  rfl
set_option maxRecDepth 100000 in
set_option maxHeartbeats 2000000 in
theorem fade_any (h:At B w0 w p M F) (hb:HB M.sv) :
  Calls Tryz.prog 109 #[.pointer (some ⟨p,15,none⟩)] w fun e w'=>e=.returned (.tuple #[])∧HeapAt B w0 w' p M F M.sv.fade:=by
 obtain⟨N,hN⟩:∃ N,M.value.xs.length=N:=⟨_,rfl⟩
 have hml:M.met.xs.length=N:=by rw[←hN];exact hb.met
 have hsm:N≤100000:=by rw[←hN];exact hb.small
 have hhl:M.hl.xs.length≤N:=by rw[←hN];exact hb.hl
 have c2:=h.c_met
 rw[hml] at c2
 obtain⟨ln,hln⟩:∃ ln,M.hl.xs.length=ln:=⟨_,rfl⟩
 obtain⟨hn,hhn⟩:∃ hn,ln/2=hn:=⟨_,rfl⟩
 have htd:(ln:Int).tdiv 2=(hn:Int):=by rw[Int.tdiv_eq_ediv_of_nonneg (by omega)];omega
 have H:=Lib.hid h
 have HBH:=Lib.hid hb
 have HN:=Lib.hid hN
 have HML:=Lib.hid hml
 have HLN:=Lib.hid hln
 have HHN:=Lib.hid hhn
 rw[hln] at hhl
 clear h hb hN hml hln
 go_enter Tryz.func109,Tryz.ntmps109
 go_wp2
 go_loopw [9] (fun s9 wr=>∃ (k:Nat),s9=.int .i64 k∧k≤N∧Hid (At B w0 wr p (M.u_met ⟨M.met.a,M.met.c,(M.met.xs.take k).map (·/2)++M.met.xs.drop k⟩) F)) (fun s9 _=>N-(intOf s9).toNat)
 case atStart=>exact⟨0,rfl,Nat.zero_le _,H.out⟩
 case round =>
  obtain⟨k,rfl,hk,H2⟩:=hrel
  by_cases hkn:k<N
  ·obtain⟨bm,hbm⟩:=H2.out.b_met (by show 0<((M.met.xs.take k).map (·/2)++M.met.xs.drop k).length;simp;have:=HML.out;omega)
   have hget:((M.met.xs.take k).map (·/2)++M.met.xs.drop k)[k]?=some (gn M.met.xs k):=by
    have:=HML.out
    rw[List.getElem?_append_right (by simp;omega)]
    simp only[List.length_map,List.length_take,Nat.min_eq_left (show k≤M.met.xs.length by omega),Nat.sub_self,List.getElem?_drop,Nat.add_zero]
    exact gn_some _ _ (by omega)
   obtain⟨d1,d2⟩:=H2.out.r_met hbm hget
   have hlen:((M.met.xs.take k).map (·/2)++M.met.xs.drop k).length=N:=by simp;have:=HML.out;omega
   have c3:=H2.out.c_met
   rw[hbm] at c3
   simp only[Option.map_some,v64] at c3 d1
   rw[hlen] at c3
   obtain⟨y,hy⟩:∃ y,gn M.met.xs k=y:=⟨_,rfl⟩
   rw[hy] at d1
   have HDV:=Lib.hid (show (y:Int)/2=((y/2:Nat):Int) by omega)
   have hn3:¬ bm=p:=H2.out.n_met hbm
   have H3:=Lib.hid (show At B w0 (wr.setCell ⟨bm,k,none⟩ (.int .u64 ((y:Int)/2))) p _ F by rw[HDV.out];exact H2.out.set_met hbm (by show k<((M.met.xs.take k).map (·/2)++M.met.xs.drop k).length;omega) (y/2))
   have HE:=Lib.hid (show ((M.met.xs.take k).map (·/2)++M.met.xs.drop k).set k (y/2)=(M.met.xs.take (k+1)).map (·/2)++M.met.xs.drop (k+1) by
    have hl:=HML.out
    rw[List.set_append,if_neg (by simp;omega)]
    rw[List.drop_eq_getElem_cons (show k<M.met.xs.length by omega),List.take_succ_eq_append_getElem (show k<M.met.xs.length by omega)]
    simp only[List.length_map,List.length_take,Nat.min_eq_left (show k≤M.met.xs.length by omega),Nat.sub_self,List.set_cons_zero,List.map_append,List.map_cons,List.map_nil,List.append_assoc,List.singleton_append]
    rw[←hy,gn_eq _ _ (by omega)])
   have k0:(0:Int)≤(k:Int):=by omega
   have k1:(k:Int)<(N:Int):=by omega
   clear hy hbm hget hlen
   go_wp2
   go_roundw
   case rel=>exact⟨k+1,by go_num,by omega,(by rw[←HE.out];exact H3.out:At B w0 _ p (M.u_met ⟨M.met.a,M.met.c,(M.met.xs.take (k+1)).map (·/2)++M.met.xs.drop (k+1)⟩) F)⟩
   case measure=>simp[intOf];omega
  ·obtain rfl:k=N:=by omega
   have h3:=H2.out
   rw[List.take_of_length_le (by rw[HML.out];exact Nat.le_refl _),List.drop_of_length_le (by rw[HML.out];exact Nat.le_refl _),List.append_nil] at h3
   have H3:=Lib.hid h3
   have c4:=h3.c_hl
   rw[show (M.u_met ⟨M.met.a,M.met.c,M.met.xs.map (·/2)⟩).hl.xs.length=ln from HLN.out] at c4
   have HB3:=Lib.hid (show HB (MM.sv (M.u_met ⟨M.met.a,M.met.c,M.met.xs.map (·/2)⟩)) from⟨HBH.out.small,HBH.out.vars,HBH.out.place,by show (M.met.xs.map (·/2)).length=_;rw[List.length_map];exact HBH.out.met,HBH.out.hl⟩)
   have HF:=Lib.hid (show SM.sift hn (MM.sv (M.u_met ⟨M.met.a,M.met.c,M.met.xs.map (·/2)⟩))=M.sv.fade by rw[←hhn,←HLN.out];rfl)
   clear h3
   go_wp2
   go_loopw [3] (fun s3 wr=>∃ (m:Nat) (z:Int) (a b c:Fl Nat),s3=.int .i64 z∧z=(m:Int)-1∧m≤hn∧Hid (At B w0 wr p (M.u_heap a b c) F)∧Hid (HB (MM.sv (M.u_heap a b c)))∧Hid (a.xs.length=ln)∧Hid (SM.sift m (MM.sv (M.u_heap a b c))=M.sv.fade)) (fun s3 _=>(intOf s3+1).toNat)
   case atStart=>exact⟨hn,(hn:Int)-1,M.hl,M.place,⟨M.met.a,M.met.c,M.met.xs.map (·/2)⟩,rfl,rfl,Nat.le_refl _,H3.out,HB3.out,HLN.out,HF.out⟩
   case round =>
    obtain⟨m,z,a,b,c,rfl,hz,hm,H4,HB4,HL4,HG⟩:=hrel
    by_cases hm0:m=0
    ·subst hm0
     obtain rfl:z=-1:=by omega
     have HG2:=Lib.hid (show MM.sv (M.u_heap a b c)=M.sv.fade from HG.out)
     clear HG hz
     go_wp2
     go_end0
     exact⟨rfl,a,b,c,H4.out,HG2.out⟩
    ·obtain⟨k,rfl⟩:∃ k,m=k+1:=⟨m-1,by omega⟩
     obtain rfl:z=(k:Int):=by omega
     have hkl:k<ln:=by omega
     have HD:=Lib.hid (down_any k H4.out HB4.out (by show k<a.xs.length;rw[HL4.out];exact hkl))
     have HB5:=Lib.hid (HB4.out.down (i:=k) (by show k<a.xs.length;rw[HL4.out];exact hkl))
     have k0:(0:Int)≤(k:Int):=by omega
     clear hz
     go_wp2_with fail
     refine HD.out.mono ?_
     rintro e w5 ⟨rfl,a2,b2,c2,h4,h5⟩
     have H5:=Lib.hid h4
     have HB6:=Lib.hid (show HB (MM.sv (M.u_heap a2 b2 c2)) by rw[show MM.sv (M.u_heap a2 b2 c2)=_ from h5];exact HB5.out)
     have HL6:=Lib.hid (show a2.xs.length=ln from ((congrArg (fun S:SM=>S.hl.length) h5).trans (downGo_hl _)).trans HL4.out)
     have HG6:=Lib.hid (show SM.sift k (MM.sv (M.u_heap a2 b2 c2))=M.sv.fade by rw[show MM.sv (M.u_heap a2 b2 c2)=_ from h5];exact HG.out)
     clear h4 h5 HD
     go_wp2
     go_roundw
     case rel=>exact⟨k,(k:Int)-1,a2,b2,c2,by go_num,rfl,by omega,H5.out,HB6.out,HL6.out,HG6.out⟩
     case measure=>simp[intOf] <;> omega
end
end Go.Proofs.YthbbmdnfkkffjaaGreat
namespace Go.Proofs.PlaitSep
open Go Go.RowKit
theorem step_append1 {P:Program} {w:World} {ops:Array Oper} {o:Oper} {a:Act} {K:Act→World→Prop} {Q:Exit→Act→World→Prop} {E:Prop} (hgd:o.guard=none) (s x:Operand) (t e:TypeId) (z:Value) (bytes:Nat)
  (ho:o.op=.call { callee:=.builtin .append,args:=#[s,x],argTypes:=#[t,t] })
  (ht:P.underlying t=some (.slice e)) (hinfo:(P.info? e).map (fun i=>(i.zero,i.size,i.bytes))=some (some z,1,bytes)) (hzs:z.cells.size=1)
  {B:Nat} {w0:World} {v:Option Nat} {n c:Nat} {xs:List Value} {F:HP} (hst:St B w0 w (star (sl v n c e 1 xs) F))
  (hs:a.eval s=.slice (v.map fun b=>⟨b,0,none⟩) n c) (b:Nat) (y:Value) (hx:a.eval x=.slice (some ⟨b,0,none⟩) 1 1) (hc:w.cell? ⟨b,0,none⟩=some y) (h1:y.oneCell'=true) (hb:(n+1)*bytes≤140737488355328) (hn:n+1≤maxLen)
  (h:∀ b' c' w',St B w0 w' (star (sl (some b') (n+1) c' e 1 (xs++[y])) F)→(∀ k,k<w.heap.size→v≠some k→w'.heap[k]?=w.heap[k]?)→K (a.put o.dst (.slice (some ⟨b',0,none⟩) (n+1) c')) w') :
  if Region.wanted o (yielded ops a.tmps)=true then Oper.wp P o a w K Q else E:=by
 have hw:Region.wanted o (yielded ops a.tmps)=true:=by simp[Region.wanted,hgd]
 rw[if_pos hw]
 obtain⟨i,hi,hzz⟩:=Option.map_eq_some_iff.1 hinfo
 simp only[Prod.mk.injEq] at hzz
 obtain⟨hz0,hz1,hz2⟩:=hzz
 obtain⟨b',c',w',hr,h2,h3,_⟩:=run_append_slk (P:=P) w0 w B t o.type e i z 1 bytes ht hi hz0 hz1 hz2 hzs (by omega) v n c xs F hst ⟨b,0,none⟩ 1 1 [y] rfl
  (fun j u hj=>by
   match j,hj with
   | 0,hj=>simp at hj;subst hj;simpa [Addr.add] using hc) (by simpa using h1) hn hb (by omega)
 unfold Oper.wp execOp
 simp only[slv] at hr
 simp only[ho,resolve,invoke,builtin,Sem.run_bind,Sem.run_pure,Result.andThen_ok,List.map_toArray,List.map_cons,List.map_nil,hs,hx,hr]
 exact h b' c' w' h2 h3
theorem cell_new (w:World) (v:Value) (e:TypeId):(w.alloc (.cells #[v] e)).cell? ⟨w.heap.size,0,none⟩=some v:=by
 rw[cell_of_row _ _ _ _ _ _ (heap_alloc_new w _)]
 rfl
theorem cell_new2 (w:World) (v:Value) (e:TypeId) (o:Obj):((w.alloc o).alloc (.cells #[v] e)).cell? ⟨w.heap.size+1,0,none⟩=some v:=by
 have h:(w.alloc o).heap.size=w.heap.size+1:=by simp
 rw[←h]
 exact cell_new (w.alloc o) v e
theorem cell_old (w:World) (v:Value) (e:TypeId) (o:Obj):((w.alloc (.cells #[v] e)).alloc o).cell? ⟨w.heap.size,0,none⟩=some v :=
 (World.cell?_alloc_some _ _ _ (by rw[cell_new];rfl)).trans (cell_new w v e)
theorem size_two (w:World) (o o':Obj):((w.drew.alloc o).alloc o').heap.size=w.heap.size+2:=by
 have h1:((w.drew.alloc o).alloc o').heap.size=w.drew.heap.size+2:=by simp
 exact h1
end Go.Proofs.PlaitSep

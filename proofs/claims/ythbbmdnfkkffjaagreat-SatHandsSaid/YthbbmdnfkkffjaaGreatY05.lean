/-
  Parts of the proof, joined by program: Grow0, Hp1, Hp2, Hp3, HpB.
-/
import Derived.Test.YthbbmdnfkkffjaaGreatY04
import Derived.Test.YthbbmdnfkkffjaaGreatY03
import Derived.Test.YthbbmdnfkkffjaaGreatY01
import Derived.Test.YthbbmdnfkkffjaaGreatRows
import Derived.WalkSpells
import Derived.WalkLawsBesides
import Derived.Deep.LoopGhost
import Derived.Deep.QuietTactic
import Derived.BigQuiet
import Derived.BigRegion
import Derived.Lib.Hide
set_option maxHeartbeats 8000000
set_option maxRecDepth 100000
namespace Go.Proofs.YthbbmdnfkkffjaaGreat
open Go.RowKit Go.Proofs.aC Go.Proofs.au Go.Proofs.aA
theorem gK (e:TypeId) (sz:Nat):sl none 0 0 e sz []=emp:=by
 funext h
 apply propext;exact⟨fun k=>k.2.2.2,fun k=>⟨by simp,rfl,rfl,k⟩⟩
section
variable {B:Nat} {w0 w:World} {p:Nat} {M:MM} {F:HP}
theorem At.Uy {b' n c':Nat} (hl:M.last.xs=[]→M.last.a=none) (hn:M.aj.xs.length=n) (h:St B w0 w (star (sl (some b') (n+2) c' 27 1 (M.aj.xs.map Fl.v++[.slice none 0 0,.slice none 0 0])) (star (stars ((parts p M).eraseIdx 19)) F))) :
  (w.cell? ⟨p,6,none⟩=some (.slice (M.aj.a.map fun b=>⟨b,0,none⟩) n M.aj.c)∧w.frozen? ⟨p,6,none⟩=false)∧At B w0 (w.setCell ⟨p,6,none⟩ (.slice (some ⟨b',0,none⟩) (n+2) c')) p (M.aY ⟨some b',c',M.aj.xs++[⟨none,0,[]⟩,⟨none,0,[]⟩]⟩) F:=by
 subst hn;obtain⟨X,hX⟩:∃ X,sl (some b') (M.aj.xs.length+2) c' 27 1 (M.aj.xs.map Fl.v++[.slice none 0 0,.slice none 0 0])=X:=⟨_,rfl⟩;obtain⟨V,hV⟩:∃ V,Value.slice (some ⟨b',0,none⟩) (M.aj.xs.length+2) c'=V:=⟨_,rfl⟩;rw[hX] at h;rw[hV];have h2:=h.aH (Ps:=parts p M) (k:=19) (by simp[parts]);have h3:=h2.aX (Ps:=(parts p M).set 19 X) (k:=0) (P:=pt p 92 (aI M)) rfl;refine⟨⟨h3.aG 6,h3.bU 6⟩,?_⟩;have h4:=h3.bM 6 V;have h5:=h4.aH (Ps:=(parts p M).set 19 X) (k:=0) (by simp[parts]);refine⟨h5.aB ?_,hl⟩;rw[←hX,←hV];have e1:(Fl.mk (some b') c' (M.aj.xs++[⟨none,0,[]⟩,⟨none,0,[]⟩])).rows 3 vN=M.aj.rows 3 vN++[emp,emp]:=by simp[Fl.rows,Fl.hp,gK]
 have e2:stars (M.aj.rows 3 vN++[emp,emp])=stars (M.aj.rows 3 vN):=by
  rw[iW,show stars [emp,emp]=emp by simp[kW,j6,aQ],aQ]
 simp only[e1,e2,parts,aI,Fl.hp,Fl.v,Fl.outer,List.map_append,List.map_cons,List.map_nil,List.length_append,List.length_cons,List.length_nil,List.set_cons_succ,List.set_cons_zero,Option.map_some,Option.map_none]
end
theorem At.Ti {B:Nat} {w0 w:World} {p:Nat} {M:MM} {F:HP} (h:At B w0 w p M F) {i j:Nat} {a a':Option Nat} {b b' n c n' c' sz sz':Nat} {e e':TypeId} {xs ys:List Value}
  (hi:(parts p M)[i]?=some (sl a n c e sz xs)) (hj:(parts p M)[j]?=some (sl a' n' c' e' sz' ys)) (hij:i≠j) (ha:a=some b) (ha':a'=some b'):b≠b':=by
 subst ha ha';obtain⟨G,hG⟩:=h.st.two hi hj hij;exact hG.SI
structure HB (S:SM):Prop where
 small:S.value.length≤100000
 vars:∀ x∈S.hl,x<S.value.length
 place:S.place.length=S.value.length
 met:S.met.length=S.value.length
 hl:S.hl.length≤S.value.length
def wZ (B:Nat) (w0 w:World) (p:Nat) (M:MM) (F:HP) (S:SM):Prop :=
 ∃ a b c,At B w0 w p (M.aP a b c) F∧MM.sv (M.aP a b c)=S
section
variable {B:Nat} {w0 w:World} {p:Nat} {M:MM} {F:HP}
theorem kK (i v:Nat) (h:At B w0 w p M F) (hi:i<M.hl.xs.length) (hv:v<M.place.xs.length) (hs:M.hl.xs.length≤1000000) (hs2:M.place.xs.length≤1000000) :
  Calls Tryz.prog 106 #[.pointer (some ⟨p,15,none⟩),.int .i64 i,.int .i64 v] w fun e w'=>e=.returned (.tuple #[])∧∃ a b,At B w0 w' p (M.fI a b) F∧MM.sv (M.fI a b)=M.sv.lay i v:=by
 obtain⟨bh,Ht⟩:=h.Bl (by omega);obtain⟨bp,hbp⟩:=h.Du (by omega);obtain⟨x,hx⟩:∃ x,M.hl.xs[i]?=some x:=⟨M.hl.xs[i],by simp[hi]⟩;obtain⟨y,hy⟩:∃ y,M.place.xs[v]?=some y:=⟨M.place.xs[v],by simp[hv]⟩;obtain⟨d1,d2⟩:=h.wW Ht hx;obtain⟨d3,d4⟩:=h.Dv hbp hy;have c1:=h.wD;have c2:=h.y9;rw[Ht] at c1;rw[hbp] at c2;simp only[Option.map_some,vN] at c1 c2 d1 d3;have n1:¬ bh=bp:=h.Ti (i:=8) (j:=9) rfl rfl (by decide) Ht hbp;have n2:¬ bp=bh:=fun e=>n1 e.symm;have n3:¬ bh=p:=h.agc Ht;have n4:¬ bp=p:=h.Kt hbp;obtain⟨ln,hln⟩:∃ ln,M.hl.xs.length=ln:=⟨_,rfl⟩;obtain⟨lp,hlp⟩:∃ lp,M.place.xs.length=lp:=⟨_,rfl⟩;rw[hln] at c1 hi hs;rw[hlp] at c2 hv hs2;have H:=zH h;have fP:=zH hln;have HLP:=zH hlp;have C9:=zH Ht;have HBP:=zH hbp;have i0:(0:Int)≤(i:Int):=by omega
 have i1:(i:Int)<(ln:Int):=by omega
 have v0:(0:Int)≤(v:Int):=by omega
 have v1:(v:Int)<(lp:Int):=by omega
 clear h hx hy hln hlp Ht hbp
 go_enter Tryz.func106,Tryz.ntmps106
 go_wp2
 go_region
 go_end0
 have h1:=(H.out.adF C9.out (by rw[fP.out];omega) v).Bn (M:=M.Bd ⟨M.hl.a,M.hl.c,M.hl.xs.set i v⟩) HBP.out (by show v<M.place.xs.length;rw[HLP.out];omega) (i+1);exact⟨rfl,_,_,h1.drewN 1,rfl⟩
theorem qM (a b:Nat) (h:At B w0 w p M F) (ha:a<M.met.xs.length) (hb:b<M.met.xs.length) (hs:M.met.xs.length≤1000000) :
  Calls Tryz.prog 114 #[.pointer (some ⟨p,15,none⟩),.int .i64 a,.int .i64 b] w fun e w'=>e=.returned (.bool (M.sv.ahead a b))∧bJ w w':=by
 obtain⟨bm,yZ⟩:=h.Ww (by omega);obtain⟨d1,_⟩:=h.SX yZ (aM M.met.xs a ha);obtain⟨d2,_⟩:=h.SX yZ (aM M.met.xs b hb);have c1:=h.LZ;rw[yZ] at c1;simp only[Option.map_some,v64] at c1 d1 d2;obtain⟨ln,hln⟩:∃ ln,M.met.xs.length=ln:=⟨_,rfl⟩;rw[hln] at c1 ha hb hs;have hA:M.sv.ahead a b=(decide (gn M.met.xs b<gn M.met.xs a)||(gn M.met.xs a==gn M.met.xs b&&decide (a<b))):=rfl;obtain⟨x,hx⟩:∃ x,gn M.met.xs a=x:=⟨_,rfl⟩;obtain⟨y,hy⟩:∃ y,gn M.met.xs b=y:=⟨_,rfl⟩;rw[hx,hy] at hA;rw[hx] at d1;rw[hy] at d2;have HA:=zH hA;have i0:(0:Int)≤(a:Int):=by omega
 have i1:(a:Int)<(ln:Int):=by omega
 have v0:(0:Int)≤(b:Int):=by omega
 have v1:(b:Int)<(ln:Int):=by omega
 clear h hln yZ hA hx hy
 by_cases g1:y<x
 ·have e1:decide ((y:Int)<(x:Int))=true:=by simpa using g1
  go_enter Tryz.func114,Tryz.ntmps114
  go_wp2
  go_quiet (fail)
  go_wp2
  go_ret
  exact⟨by rw[HA.out];simp[g1],⟨_,rfl⟩⟩
 ·have e1:decide ((y:Int)<(x:Int))=false:=by simp;omega
  by_cases g2:x=y
  ·subst g2;have e2:((x:Int)==(x:Int))=true:=by simp
   by_cases g3:a<b
   ·have e3:decide ((a:Int)<(b:Int))=true:=by simpa using g3
    go_enter Tryz.func114,Tryz.ntmps114
    go_wp2
    go_quiet (fail)
    go_wp2
    go_ret
    exact⟨by rw[HA.out];simp[g3],⟨_,rfl⟩⟩
   ·have e3:decide ((a:Int)<(b:Int))=false:=by simp;omega
    go_enter Tryz.func114,Tryz.ntmps114
    go_wp2
    go_quiet (fail)
    go_wp2
    go_ret
    exact⟨by rw[HA.out];simp[g3],⟨_,rfl⟩⟩
  ·have e2:((x:Int)==(y:Int))=false:=by simp;omega
   go_enter Tryz.func114,Tryz.ntmps114
   go_wp2
   go_quiet (fail)
   go_wp2
   go_ret
   exact⟨by rw[HA.out];simp[g1,g2],⟨_,rfl⟩⟩
theorem aaQ (a b:Nat) (h:At B w0 w p M F) (ha:a<M.met.xs.length) (hb:b<M.met.xs.length) (hs:M.met.xs.length≤1000000) (r:Bool) (hr:M.sv.ahead a b=r) (t:Nat) :
  Calls Tryz.prog 114 #[.pointer (some ⟨p,15,none⟩),.int .i64 a,.int .i64 b] (w.drewN t) fun e w'=>e=.returned (.bool r)∧∃ m,w'=w.drewN m:=by
 refine (qM a b (h.drewN t) ha hb hs).mono ?_
 rintro e w' ⟨rfl,m,rfl⟩
 rw[hr];exact⟨rfl,t+m,World.drewN_drewN ..⟩
end
section
variable {B:Nat} {w0 w:World} {p:Nat} {M:MM} {F:HP}
theorem zF {l:List Nat} {n i v:Nat} (h:∀ x∈l,x<n) (hv:v<n):∀ x∈l.set i v,x<n:=fun x hx=>by
 rcases List.mem_or_eq_of_mem_set hx with h1 | rfl
 ·exact h x h1
 ·exact hv
theorem IZ {f:Nat} {S:SM} {v i:Nat} (h:(decide (0<i)&&S.ahead v (gn S.hl ((i-1)/2)))=false):SM.ji f S v i=S.lay i v:=by
 cases f with
 | zero=>rfl
 | succ f=>rw[SM.ji,h];rfl
theorem WE (i:Nat) (h:At B w0 w p M F) (hb:HB M.sv) (hi:i<M.hl.xs.length) :
  Calls Tryz.prog 102 #[.pointer (some ⟨p,15,none⟩),.int .i64 i] w fun e w'=>e=.returned (.tuple #[])∧wZ B w0 w' p M F (M.sv.up i):=by
 obtain⟨N,hN⟩:∃ N,M.value.xs.length=N:=⟨_,rfl⟩;have hv:∀ x∈M.hl.xs,x<N:=by rw[←hN];exact hb.vars
 have hpl:M.place.xs.length=N:=by rw[←hN];exact hb.place
 have hmt:M.met.xs.length=N:=by rw[←hN];exact hb.met
 have I4:M.hl.xs.length≤N:=by rw[←hN];exact hb.hl
 have hsm:N≤100000:=by rw[←hN];exact hb.small
 obtain⟨ln,hln⟩:∃ ln,M.hl.xs.length=ln:=⟨_,rfl⟩;obtain⟨bh,Ht⟩:=h.Bl (by omega);obtain⟨d1,d2⟩:=h.wW Ht (aM M.hl.xs i hi);have c1:=h.wD;rw[Ht] at c1;simp only[Option.map_some,vN] at c1 d1;have hvv:gn M.hl.xs i<N:=hv _ (aU _ _ hi);have hup:M.sv.up i=SM.ji i M.sv (gn M.hl.xs i) i:=rfl;obtain⟨v,hvd⟩:∃ v,gn M.hl.xs i=v:=⟨_,rfl⟩;rw[hvd] at d1 hvv hup;rw[hln] at c1 hi I4;have H:=zH h;have HV:=zH hv;have fP:=zH hln;have Wh:=zH hpl;have Hu:=zH hmt;have HUP:=zH hup;have i0:(0:Int)≤(i:Int):=by omega
 have i1:(i:Int)<(ln:Int):=by omega
 clear h hb hN hv hpl hmt Ht hln hvd hup
 go_enter Tryz.func102,Tryz.ntmps102
 go_wp2
 go_loopw [1] (fun s1 wr=>∃ (j f:Nat) (a b:Fl Nat),s1=.int .i64 j∧j<ln∧j≤f∧Hid (a.xs.length=ln)∧Hid (b.xs.length=N)∧Hid (∀ x∈a.xs,x<N)∧Hid (At B w0 wr p (M.fI a b) F) ∧
  Hid (SM.ji f (MM.sv (M.fI a b)) v j=M.sv.up i)) (fun s1 _=>(intOf s1).toNat)
 case atStart=>exact⟨i,i,M.hl,M.place,rfl,hi,Nat.le_refl _,fP.out,Wh.out,HV.out,H.out,HUP.out.symm⟩
 case round =>
  obtain⟨j,f,a,b,rfl,hj,hjf,HA,HB,WG,H2,HG⟩:=hrel
  by_cases hj0:j=0
  ·subst hj0;have HL:=zH (kK 0 v H2.out (by show 0<a.xs.length;rw[HA.out];exact hj) (by show v<b.xs.length;rw[HB.out];exact hvv) (by show a.xs.length≤_;rw[HA.out];omega) (by show b.xs.length≤_;rw[HB.out];omega));have hst:=HG.out;rw[IZ (by rfl)] at hst;have HST:=zH hst;clear hst
   go_wp2_with fail
   refine HL.out.mono ?_
   rintro e w2 ⟨rfl,h2⟩
   rw[HST.out] at h2;have HH:=zH h2;clear h2
   go_wp2
   go_end0
   obtain⟨a2,b2,h3,h4⟩:=HH.out;exact⟨rfl,a2,b2,M.met,h3,h4⟩
  ·obtain⟨k,hk⟩:∃ k,(j-1)/2=k:=⟨_,rfl⟩;have hkj:k<j:=by omega
   have hdv:((j:Int)-1).tdiv 2=(k:Int):=by
    rw[Int.tdiv_eq_ediv_of_nonneg (by omega)];omega
   obtain⟨ba,hba⟩:=H2.out.Bl (by show 0<a.xs.length;rw[HA.out];omega);obtain⟨d3,_⟩:=H2.out.wW hba (aM a.xs k (by rw[HA.out];omega));have c3:=H2.out.wD;rw[hba] at c3;simp only[Option.map_some,vN] at c3 d3;rw[HA.out] at c3;have Ky:gn a.xs k<N:=WG.out _ (aU _ _ (by rw[HA.out];omega));obtain⟨x,hx⟩:∃ x,gn a.xs k=x:=⟨_,rfl⟩;rw[hx] at d3 Ky;have HX:=zH hx;have HK:=zH hk;have Qo:=zH (qM v x H2.out (by show v<M.met.xs.length;rw[Hu.out];exact hvv) (by show x<M.met.xs.length;rw[Hu.out];exact Ky) (by show M.met.xs.length≤_;rw[Hu.out];omega));obtain⟨ah,hah⟩:∃ ah,(MM.sv (M.fI a b)).ahead v x=ah:=⟨_,rfl⟩;rw[hah] at Qo;have WH:=zH hah;have jp:(0:Int)<(j:Int):=by omega
   have k0:(0:Int)≤(k:Int):=by omega
   have k1:(k:Int)<(ln:Int):=by omega
   clear hx hk hba hah
   go_wp2_with fail
   refine Qo.out.mono ?_
   rintro e w2 ⟨rfl,hd⟩
   have H3:=zH (H2.out.drawn hd);clear hd Qo
   cases ah with
   | false =>
    have hst:=HG.out
    rw[IZ (by
     rw[HK.out];show (decide (0<j)&&(MM.sv (M.fI a b)).ahead v (gn a.xs k))=false
     rw[HX.out,WH.out,Bool.and_false])] at hst
    have HST:=zH hst;have HL:=zH (kK j v H3.out (by show j<a.xs.length;rw[HA.out];exact hj) (by show v<b.xs.length;rw[HB.out];exact hvv) (by show a.xs.length≤_;rw[HA.out];omega) (by show b.xs.length≤_;rw[HB.out];omega));clear hst
    go_wp2_with fail
    refine HL.out.mono ?_
    rintro e w4 ⟨rfl,h2⟩
    rw[HST.out] at h2;have HH:=zH h2;clear h2
    go_wp2
    go_end0
    obtain⟨a2,b2,h3,h4⟩:=HH.out;exact⟨rfl,a2,b2,M.met,h3,h4⟩
   | true =>
    obtain⟨f2,rfl⟩:∃ f2,f=f2+1:=⟨f-1,by omega⟩;have hst:=HG.out;rw[SM.ji,HK.out] at hst
    have hc:(decide (0<j)&&(MM.sv (M.fI a b)).ahead v (gn (MM.sv (M.fI a b)).hl k))=true:=by
     show (decide (0<j)&&(MM.sv (M.fI a b)).ahead v (gn a.xs k))=true;rw[HX.out,WH.out];simp;omega
    rw[hc,if_pos rfl,show gn (MM.sv (M.fI a b)).hl k=x from HX.out] at hst;have HST:=zH hst;have hba:=H3.out.wD;have c4:=H3.out.wD;obtain⟨ba2,yg⟩:=H3.out.Bl (by show 0<a.xs.length;rw[HA.out];omega);obtain⟨d4,_⟩:=H3.out.wW yg (aM a.xs k (by rw[HA.out];omega));rw[yg] at c4;simp only[Option.map_some,vN] at c4 d4;rw[HA.out] at c4;rw[HX.out] at d4;have HL:=zH (kK j x H3.out (by show j<a.xs.length;rw[HA.out];exact hj) (by show x<b.xs.length;rw[HB.out];exact Ky) (by show a.xs.length≤_;rw[HA.out];omega) (by show b.xs.length≤_;rw[HB.out];omega));clear hst hc hba yg c3 d3
    go_wp2_with fail
    refine HL.out.mono ?_
    rintro e w4 ⟨rfl,a2,b2,h3,h4⟩
    have ha2:a2.xs=a.xs.set j x:=congrArg SM.hl h4;have hb2:b2.xs=b.xs.set x (j+1):=congrArg SM.place h4;have H5:=zH h3;have HA2:=zH (show a2.xs.length=ln by rw[ha2,List.length_set];exact HA.out);have HB2:=zH (show b2.xs.length=N by rw[hb2,List.length_set];exact HB.out);have Qp:=zH (show ∀ y∈a2.xs,y<N by rw[ha2];exact zF WG.out Ky);have HG2:=zH (show SM.ji f2 (MM.sv (M.fI a2 b2)) v k=M.sv.up i by rw[←HST.out,←h4]);clear HL h3 h4 ha2 hb2
    go_wp2
    go_roundw
    case rel=>exact⟨k,f2,a2,b2,rfl,by omega,by omega,HA2.out,HB2.out,Qp.out,H5.out,HG2.out⟩
    case measure=>simp[intOf];omega
end
section
variable {B:Nat} {w0 w:World} {p:Nat} {M:MM} {F:HP}
theorem Fg {S:SM} {j k:Nat} (hk:2*j+1=k):S.child j=if (decide (k+1<S.hl.length)&&S.ahead (gn S.hl (k+1)) (gn S.hl k))=true then k+1 else k:=by
 subst hk;rfl
theorem Ml (i:Nat) (h:At B w0 w p M F) (hb:HB M.sv) (hi:i<M.hl.xs.length) :
  Calls Tryz.prog 107 #[.pointer (some ⟨p,15,none⟩),.int .i64 i] w fun e w'=>e=.returned (.tuple #[])∧wZ B w0 w' p M F (M.sv.down i):=by
 obtain⟨N,hN⟩:∃ N,M.value.xs.length=N:=⟨_,rfl⟩;have hv:∀ x∈M.hl.xs,x<N:=by rw[←hN];exact hb.vars
 have hpl:M.place.xs.length=N:=by rw[←hN];exact hb.place
 have hmt:M.met.xs.length=N:=by rw[←hN];exact hb.met
 have I4:M.hl.xs.length≤N:=by rw[←hN];exact hb.hl
 have hsm:N≤100000:=by rw[←hN];exact hb.small
 obtain⟨ln,hln⟩:∃ ln,M.hl.xs.length=ln:=⟨_,rfl⟩;obtain⟨bh,Ht⟩:=h.Bl (by omega);obtain⟨d1,d2⟩:=h.wW Ht (aM M.hl.xs i hi);have c1:=h.wD;rw[Ht] at c1;simp only[Option.map_some,vN] at c1 d1;have hvv:gn M.hl.xs i<N:=hv _ (aU _ _ hi);have hup:SM.dH ln M.sv (gn M.hl.xs i) i=M.sv.down i:=by rw[←hln];rfl
 obtain⟨v,hvd⟩:∃ v,gn M.hl.xs i=v:=⟨_,rfl⟩;rw[hvd] at d1 hvv hup;rw[hln] at c1 hi I4;have H:=zH h;have HV:=zH hv;have fP:=zH hln;have Wh:=zH hpl;have Hu:=zH hmt;have HUP:=zH hup;have i0:(0:Int)≤(i:Int):=by omega
 have i1:(i:Int)<(ln:Int):=by omega
 clear h hb hN hv hpl hmt Ht hln hvd hup
 go_enter Tryz.func107,Tryz.ntmps107
 go_wp2
 go_loopw [1] (fun s1 wr=>∃ (j f:Nat) (a b:Fl Nat),s1=.int .i64 j∧j<ln∧ln≤j+f∧Hid (a.xs.length=ln)∧Hid (b.xs.length=N)∧Hid (∀ x∈a.xs,x<N)∧Hid (At B w0 wr p (M.fI a b) F) ∧
  Hid (SM.dH f (MM.sv (M.fI a b)) v j=M.sv.down i)) (fun s1 _=>ln-(intOf s1).toNat)
 case atStart=>exact⟨i,ln,M.hl,M.place,rfl,hi,by omega,fP.out,Wh.out,HV.out,H.out,HUP.out⟩
 case round =>
  obtain⟨j,f0,a,b,rfl,hj,hjf,HA,HB,WG,H2,HG⟩:=hrel;obtain⟨f,rfl⟩:∃ f,f0=f+1:=⟨f0-1,by omega⟩;obtain⟨ba,hba⟩:=H2.out.Bl (by show 0<a.xs.length;rw[HA.out];omega);have c3:=H2.out.wD;rw[hba] at c3;simp only[Option.map_some] at c3;rw[HA.out] at c3
  by_cases hend:ln≤2*j+1
  ·have e1:decide ((ln:Int)≤2*(j:Int)+1)=true:=by simp;omega
   have hst:=HG.out;rw[SM.dH,if_pos (by show a.xs.length≤_;rw[HA.out];exact hend)] at hst;have HL:=zH (kK j v H2.out (by show j<a.xs.length;rw[HA.out];exact hj) (by show v<b.xs.length;rw[HB.out];exact hvv) (by show a.xs.length≤_;rw[HA.out];omega) (by show b.xs.length≤_;rw[HB.out];omega));rw[hst] at HL;clear hst hba
   go_wp2_with fail
   refine HL.out.mono ?_
   rintro e w2 ⟨rfl,h2⟩
   have HH:=zH h2;clear h2
   go_wp2
   go_end0
   obtain⟨a2,b2,h3,h4⟩:=HH.out;exact⟨rfl,a2,b2,M.met,h3,h4⟩
  ·have e1:decide ((ln:Int)≤2*(j:Int)+1)=false:=by simp;omega
   obtain⟨k,hk⟩:∃ k,2*j+1=k:=⟨_,rfl⟩;have hki:2*(j:Int)+1=(k:Int):=by omega
   have hkl:k<ln:=by omega
   have hkj:j<k:=by omega
   have e1:decide ((ln:Int)≤(k:Int))=false:=by simp;omega
   have hsl:=hba;obtain⟨d3,_⟩:=H2.out.wW hba (aM a.xs k (by rw[HA.out];omega));simp only[vN] at d3;obtain⟨y0,hy0⟩:∃ y,gn a.xs k=y:=⟨_,rfl⟩;have hyN:gn a.xs k<N:=WG.out _ (aU _ _ (by rw[HA.out];omega));rw[hy0] at d3 hyN;have HY:=zH hy0;have kk0:(0:Int)≤(k:Int):=by omega
   have kk1:(k:Int)<(ln:Int):=by omega
   clear hy0
   by_cases agd:k+1<ln
   ·have e2:decide ((k:Int)+1<(ln:Int))=true:=by simp;omega
    have q0:(0:Int)≤(k:Int)+1:=by omega
    have q1:(k:Int)+1<(ln:Int):=by omega
    obtain⟨d4,_⟩:=H2.out.wW hba (aM a.xs (k+1) (by rw[HA.out];omega));simp only[vN] at d4;obtain⟨z0,hz0⟩:∃ z,gn a.xs (k+1)=z:=⟨_,rfl⟩;have hzN:gn a.xs (k+1)<N:=WG.out _ (aU _ _ (by rw[HA.out];omega));rw[hz0] at d4 hzN;have HZ:=zH hz0;obtain⟨g,hg⟩:∃ g,(MM.sv (M.fI a b)).ahead z0 y0=g:=⟨_,rfl⟩;have HQ:=zH (aaQ z0 y0 H2.out (by show z0<M.met.xs.length;rw[Hu.out];exact hzN) (by show y0<M.met.xs.length;rw[Hu.out];exact hyN) (by show M.met.xs.length≤_;rw[Hu.out];omega) g hg);have HG0:=zH hg;clear hz0 hg hba
    go_wp2_with fail
    go_quiet ((go_at_call 114;exact HQ.out _))
    cases g with
    | true =>
     have HCH:=zH (show (MM.sv (M.fI a b)).child j=k+1 by
      rw[Fg hk];show (if (decide (k+1<a.xs.length)&&(MM.sv (M.fI a b)).ahead (gn a.xs (k+1)) (gn a.xs k))=true then k+1 else k)=k+1
      rw[HZ.out,HY.out,HG0.out,HA.out]
      simp[agd])
     have H3:=zH (H2.out.drewN nq);clear d3 d4 c3 e1 e2;obtain⟨ba,hba⟩:=H3.out.Bl (by show 0<a.xs.length;rw[HA.out];omega);obtain⟨d5,_⟩:=H3.out.wW hba (aM a.xs (k+1) (by rw[HA.out];omega));have c5:=H3.out.wD;rw[hba] at c5;simp only[Option.map_some,vN] at c5 d5;rw[HA.out] at c5;have Ky:gn a.xs (k+1)<N:=WG.out _ (aU _ _ (by rw[HA.out];omega));obtain⟨x,hx⟩:∃ x,gn a.xs (k+1)=x:=⟨_,rfl⟩;rw[hx] at d5 Ky;have HX:=zH hx;have Qo:=zH (qM x v H3.out (by show x<M.met.xs.length;rw[Hu.out];exact Ky) (by show v<M.met.xs.length;rw[Hu.out];exact hvv) (by show M.met.xs.length≤_;rw[Hu.out];omega));obtain⟨ah,hah⟩:∃ ah,(MM.sv (M.fI a b)).ahead x v=ah:=⟨_,rfl⟩;rw[hah] at Qo;have WH:=zH hah;have k0:(0:Int)≤((k+1:Nat):Int):=by omega
     have k1:((k+1:Nat):Int)<(ln:Int):=by omega
     have HST:=zH (show (if ah=true then SM.dH f ((MM.sv (M.fI a b)).lay j x) v (k+1) else (MM.sv (M.fI a b)).lay j v)=M.sv.down i by
      have hst:=HG.out;rw[SM.dH,if_neg (by show ¬ a.xs.length≤2*j+1;rw[HA.out];omega),HCH.out,show gn (MM.sv (M.fI a b)).hl (k+1)=x from HX.out,hah] at hst
      exact hst)
     clear hx hba hah d1 d2 c1
     go_wp2_with fail
     refine Qo.out.mono ?_
     rintro e w4 ⟨rfl,hd⟩
     have H4:=zH (H3.out.drawn hd);clear hd Qo
     cases ah with
     | false =>
      have hst:=HST.out;rw[if_neg (by simp)] at hst;have HL:=zH (kK j v H4.out (by show j<a.xs.length;rw[HA.out];exact hj) (by show v<b.xs.length;rw[HB.out];exact hvv) (by show a.xs.length≤_;rw[HA.out];omega) (by show b.xs.length≤_;rw[HB.out];omega));rw[hst] at HL;clear hst
      go_wp2_with fail
      refine HL.out.mono ?_
      rintro e w5 ⟨rfl,h2⟩
      have HH:=zH h2;clear h2
      go_wp2
      go_end0
      obtain⟨a2,b2,h3,h4⟩:=HH.out;exact⟨rfl,a2,b2,M.met,h3,h4⟩
     | true =>
      have hst:=HST.out;rw[if_pos rfl] at hst;have lU:=zH hst;obtain⟨ba2,yg⟩:=H4.out.Bl (by show 0<a.xs.length;rw[HA.out];omega);obtain⟨d6,_⟩:=H4.out.wW yg (aM a.xs (k+1) (by rw[HA.out];omega));have c6:=H4.out.wD;rw[yg] at c6;simp only[Option.map_some,vN] at c6 d6;rw[HA.out] at c6;rw[HX.out] at d6;have HL:=zH (kK j x H4.out (by show j<a.xs.length;rw[HA.out];exact hj) (by show x<b.xs.length;rw[HB.out];exact Ky) (by show a.xs.length≤_;rw[HA.out];omega) (by show b.xs.length≤_;rw[HB.out];omega));clear hst yg c5 d5
      go_wp2_with fail
      refine HL.out.mono ?_
      rintro e w5 ⟨rfl,a2,b2,h3,h4⟩
      have ha2:a2.xs=a.xs.set j x:=congrArg SM.hl h4;have hb2:b2.xs=b.xs.set x (j+1):=congrArg SM.place h4;have H5:=zH h3;have HA2:=zH (show a2.xs.length=ln by rw[ha2,List.length_set];exact HA.out);have HB2:=zH (show b2.xs.length=N by rw[hb2,List.length_set];exact HB.out);have Qp:=zH (show ∀ y∈a2.xs,y<N by rw[ha2];exact zF WG.out Ky);have HG2:=zH (show SM.dH f (MM.sv (M.fI a2 b2)) v (k+1)=M.sv.down i by rw[←lU.out,←h4]);clear HL h3 h4 ha2 hb2
      go_wp2
      go_roundw
      case rel=>exact⟨k+1,f,a2,b2,by go_num,by omega,by omega,HA2.out,HB2.out,Qp.out,H5.out,HG2.out⟩
      case measure=>simp[intOf];omega
    | false =>
     have HCH:=zH (show (MM.sv (M.fI a b)).child j=k by
      rw[Fg hk];show (if (decide (k+1<a.xs.length)&&(MM.sv (M.fI a b)).ahead (gn a.xs (k+1)) (gn a.xs k))=true then k+1 else k)=k
      rw[HZ.out,HY.out,HG0.out,HA.out]
      simp)
     have H3:=zH (H2.out.drewN nq);clear d3 d4 c3 e1 e2;obtain⟨ba,hba⟩:=H3.out.Bl (by show 0<a.xs.length;rw[HA.out];omega);obtain⟨d5,_⟩:=H3.out.wW hba (aM a.xs k (by rw[HA.out];omega));have c5:=H3.out.wD;rw[hba] at c5;simp only[Option.map_some,vN] at c5 d5;rw[HA.out] at c5;have Ky:gn a.xs k<N:=WG.out _ (aU _ _ (by rw[HA.out];omega));obtain⟨x,hx⟩:∃ x,gn a.xs k=x:=⟨_,rfl⟩;rw[hx] at d5 Ky;have HX:=zH hx;have Qo:=zH (qM x v H3.out (by show x<M.met.xs.length;rw[Hu.out];exact Ky) (by show v<M.met.xs.length;rw[Hu.out];exact hvv) (by show M.met.xs.length≤_;rw[Hu.out];omega));obtain⟨ah,hah⟩:∃ ah,(MM.sv (M.fI a b)).ahead x v=ah:=⟨_,rfl⟩;rw[hah] at Qo;have WH:=zH hah;have k0:(0:Int)≤(k:Int):=by omega
     have k1:(k:Int)<(ln:Int):=by omega
     have HST:=zH (show (if ah=true then SM.dH f ((MM.sv (M.fI a b)).lay j x) v k else (MM.sv (M.fI a b)).lay j v)=M.sv.down i by
      have hst:=HG.out;rw[SM.dH,if_neg (by show ¬ a.xs.length≤2*j+1;rw[HA.out];omega),HCH.out,show gn (MM.sv (M.fI a b)).hl k=x from HX.out,hah] at hst
      exact hst)
     clear hx hba hah d1 d2 c1
     go_wp2_with fail
     refine Qo.out.mono ?_
     rintro e w4 ⟨rfl,hd⟩
     have H4:=zH (H3.out.drawn hd);clear hd Qo
     cases ah with
     | false =>
      have hst:=HST.out;rw[if_neg (by simp)] at hst;have HL:=zH (kK j v H4.out (by show j<a.xs.length;rw[HA.out];exact hj) (by show v<b.xs.length;rw[HB.out];exact hvv) (by show a.xs.length≤_;rw[HA.out];omega) (by show b.xs.length≤_;rw[HB.out];omega));rw[hst] at HL;clear hst
      go_wp2_with fail
      refine HL.out.mono ?_
      rintro e w5 ⟨rfl,h2⟩
      have HH:=zH h2;clear h2
      go_wp2
      go_end0
      obtain⟨a2,b2,h3,h4⟩:=HH.out;exact⟨rfl,a2,b2,M.met,h3,h4⟩
     | true =>
      have hst:=HST.out;rw[if_pos rfl] at hst;have lU:=zH hst;obtain⟨ba2,yg⟩:=H4.out.Bl (by show 0<a.xs.length;rw[HA.out];omega);obtain⟨d6,_⟩:=H4.out.wW yg (aM a.xs k (by rw[HA.out];omega));have c6:=H4.out.wD;rw[yg] at c6;simp only[Option.map_some,vN] at c6 d6;rw[HA.out] at c6;rw[HX.out] at d6;have HL:=zH (kK j x H4.out (by show j<a.xs.length;rw[HA.out];exact hj) (by show x<b.xs.length;rw[HB.out];exact Ky) (by show a.xs.length≤_;rw[HA.out];omega) (by show b.xs.length≤_;rw[HB.out];omega));clear hst yg c5 d5
      go_wp2_with fail
      refine HL.out.mono ?_
      rintro e w5 ⟨rfl,a2,b2,h3,h4⟩
      have ha2:a2.xs=a.xs.set j x:=congrArg SM.hl h4;have hb2:b2.xs=b.xs.set x (j+1):=congrArg SM.place h4;have H5:=zH h3;have HA2:=zH (show a2.xs.length=ln by rw[ha2,List.length_set];exact HA.out);have HB2:=zH (show b2.xs.length=N by rw[hb2,List.length_set];exact HB.out);have Qp:=zH (show ∀ y∈a2.xs,y<N by rw[ha2];exact zF WG.out Ky);have HG2:=zH (show SM.dH f (MM.sv (M.fI a2 b2)) v k=M.sv.down i by rw[←lU.out,←h4]);clear HL h3 h4 ha2 hb2
      go_wp2
      go_roundw
      case rel=>exact⟨k,f,a2,b2,by go_num,by omega,by omega,HA2.out,HB2.out,Qp.out,H5.out,HG2.out⟩
      case measure=>simp[intOf];omega
   ·have e2:decide ((k:Int)+1<(ln:Int))=false:=by simp;omega
    go_wp2_with fail
    go_quiet (fail)
    have HCH:=zH (show (MM.sv (M.fI a b)).child j=k by
     rw[Fg hk];show (if (decide (k+1<a.xs.length)&&(MM.sv (M.fI a b)).ahead (gn a.xs (k+1)) (gn a.xs k))=true then k+1 else k)=k
     rw[HA.out]
     simp[agd])
    have H3:=zH (H2.out.drewN nq);clear d3 c3 e1 e2 hba;obtain⟨ba,hba⟩:=H3.out.Bl (by show 0<a.xs.length;rw[HA.out];omega);obtain⟨d5,_⟩:=H3.out.wW hba (aM a.xs k (by rw[HA.out];omega));have c5:=H3.out.wD;rw[hba] at c5;simp only[Option.map_some,vN] at c5 d5;rw[HA.out] at c5;have Ky:gn a.xs k<N:=WG.out _ (aU _ _ (by rw[HA.out];omega));obtain⟨x,hx⟩:∃ x,gn a.xs k=x:=⟨_,rfl⟩;rw[hx] at d5 Ky;have HX:=zH hx;have Qo:=zH (qM x v H3.out (by show x<M.met.xs.length;rw[Hu.out];exact Ky) (by show v<M.met.xs.length;rw[Hu.out];exact hvv) (by show M.met.xs.length≤_;rw[Hu.out];omega));obtain⟨ah,hah⟩:∃ ah,(MM.sv (M.fI a b)).ahead x v=ah:=⟨_,rfl⟩;rw[hah] at Qo;have WH:=zH hah;have k0:(0:Int)≤(k:Int):=by omega
    have k1:(k:Int)<(ln:Int):=by omega
    have HST:=zH (show (if ah=true then SM.dH f ((MM.sv (M.fI a b)).lay j x) v k else (MM.sv (M.fI a b)).lay j v)=M.sv.down i by
     have hst:=HG.out;rw[SM.dH,if_neg (by show ¬ a.xs.length≤2*j+1;rw[HA.out];omega),HCH.out,show gn (MM.sv (M.fI a b)).hl k=x from HX.out,hah] at hst
     exact hst)
    clear hx hba hah d1 d2 c1
    go_wp2_with fail
    refine Qo.out.mono ?_
    rintro e w4 ⟨rfl,hd⟩
    have H4:=zH (H3.out.drawn hd);clear hd Qo
    cases ah with
    | false =>
     have hst:=HST.out;rw[if_neg (by simp)] at hst;have HL:=zH (kK j v H4.out (by show j<a.xs.length;rw[HA.out];exact hj) (by show v<b.xs.length;rw[HB.out];exact hvv) (by show a.xs.length≤_;rw[HA.out];omega) (by show b.xs.length≤_;rw[HB.out];omega));rw[hst] at HL;clear hst
     go_wp2_with fail
     refine HL.out.mono ?_
     rintro e w5 ⟨rfl,h2⟩
     have HH:=zH h2;clear h2
     go_wp2
     go_end0
     obtain⟨a2,b2,h3,h4⟩:=HH.out;exact⟨rfl,a2,b2,M.met,h3,h4⟩
    | true =>
     have hst:=HST.out;rw[if_pos rfl] at hst;have lU:=zH hst;obtain⟨ba2,yg⟩:=H4.out.Bl (by show 0<a.xs.length;rw[HA.out];omega);obtain⟨d6,_⟩:=H4.out.wW yg (aM a.xs k (by rw[HA.out];omega));have c6:=H4.out.wD;rw[yg] at c6;simp only[Option.map_some,vN] at c6 d6;rw[HA.out] at c6;rw[HX.out] at d6;have HL:=zH (kK j x H4.out (by show j<a.xs.length;rw[HA.out];exact hj) (by show x<b.xs.length;rw[HB.out];exact Ky) (by show a.xs.length≤_;rw[HA.out];omega) (by show b.xs.length≤_;rw[HB.out];omega));clear hst yg c5 d5
     go_wp2_with fail
     refine HL.out.mono ?_
     rintro e w5 ⟨rfl,a2,b2,h3,h4⟩
     have ha2:a2.xs=a.xs.set j x:=congrArg SM.hl h4;have hb2:b2.xs=b.xs.set x (j+1):=congrArg SM.place h4;have H5:=zH h3;have HA2:=zH (show a2.xs.length=ln by rw[ha2,List.length_set];exact HA.out);have HB2:=zH (show b2.xs.length=N by rw[hb2,List.length_set];exact HB.out);have Qp:=zH (show ∀ y∈a2.xs,y<N by rw[ha2];exact zF WG.out Ky);have HG2:=zH (show SM.dH f (MM.sv (M.fI a2 b2)) v k=M.sv.down i by rw[←lU.out,←h4]);clear HL h3 h4 ha2 hb2
     go_wp2
     go_roundw
     case rel=>exact⟨k,f,a2,b2,by go_num,by omega,by omega,HA2.out,HB2.out,Qp.out,H5.out,HG2.out⟩
     case measure=>simp[intOf];omega
end
end Go.Proofs.YthbbmdnfkkffjaaGreat
namespace Go.Proofs.YthbbmdnfkkffjaaGreat
open Go.Proofs.au Go.Proofs.aA
theorem acG {l:List Nat} {n k:Nat} (h:∀ x∈l,x<n) (hn:0<n):gn l k<n:=by
 by_cases hk:k<l.length
 ·exact h _ (aU l k hk)
 ·simp[gn,List.getD_eq_getElem?_getD,List.getElem?_eq_none (Nat.le_of_not_lt hk),hn]
theorem HB.lay {S:SM} (h:HB S) {i v:Nat} (hv:v<S.value.length):HB (S.lay i v):=by
 refine⟨h.small,fun x hx=>?_,by show (S.place.set v (i+1)).length=_;rw[List.length_set];exact h.place,h.met,by show (S.hl.set i v).length≤_;rw[List.length_set];exact h.hl⟩;rcases List.mem_or_eq_of_mem_set hx with h1 | rfl
 ·exact h.vars x h1
 ·exact hv
theorem HB.ji:∀ (f:Nat) {S:SM} {v i:Nat},HB S→v<S.value.length→HB (SM.ji f S v i)
 | 0,S,v,i,h,hv=>h.lay hv
 | f+1,S,v,i,h,hv=>by
  rw[SM.ji]
  split
  ·exact HB.ji f (h.lay (acG h.vars (by omega))) hv
  ·exact h.lay hv
theorem HB.dH:∀ (f:Nat) {S:SM} {v i:Nat},HB S→v<S.value.length→HB (SM.dH f S v i)
 | 0,S,v,i,h,hv=>h.lay hv
 | f+1,S,v,i,h,hv=>by
  rw[SM.dH]
  split
  ·exact h.lay hv
  ·split
   ·exact HB.dH f (h.lay (acG h.vars (by omega))) hv
   ·exact h.lay hv
theorem Kz:∀ (f:Nat) {S:SM} {v i:Nat},(SM.ji f S v i).hl.length=S.hl.length
 | 0,S,v,i=>by show (S.hl.set i v).length=_;rw[List.length_set]
 | f+1,S,v,i=>by
  rw[SM.ji]
  split
  ·rw[Kz f];show (S.hl.set _ _).length=_;rw[List.length_set]
  ·show (S.hl.set i v).length=_;rw[List.length_set]
theorem qN:∀ (f:Nat) {S:SM} {v i:Nat},(SM.dH f S v i).hl.length=S.hl.length
 | 0,S,v,i=>by show (S.hl.set i v).length=_;rw[List.length_set]
 | f+1,S,v,i=>by
  rw[SM.dH]
  split
  ·show (S.hl.set i v).length=_;rw[List.length_set]
  ·split
   ·rw[qN f];show (S.hl.set _ _).length=_;rw[List.length_set]
   ·show (S.hl.set i v).length=_;rw[List.length_set]
theorem HB.up {S:SM} (h:HB S) {i:Nat} (hi:i<S.hl.length):HB (S.up i):=h.ji _ (h.vars _ (aU _ _ hi))
theorem HB.down {S:SM} (h:HB S) {i:Nat} (hi:i<S.hl.length):HB (S.down i):=h.dH _ (h.vars _ (aU _ _ hi))
end Go.Proofs.YthbbmdnfkkffjaaGreat

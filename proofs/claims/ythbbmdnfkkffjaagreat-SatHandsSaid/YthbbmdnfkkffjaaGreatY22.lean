/-
  Parts of the proof, joined by program: Mt, Stt, Pi9, Pi10.
-/
import Derived.Test.YthbbmdnfkkffjaaGreatY21
import Derived.Test.YthbbmdnfkkffjaaGreatY16
import Derived.Test.YthbbmdnfkkffjaaGreatY20
import Derived.Test.YthbbmdnfkkffjaaGreatY01
import Derived.Lib.Hide
set_option maxHeartbeats 8000000
set_option maxRecDepth 100000
namespace Go.Proofs.YthbbmdnfkkffjaaGreat
open Go.RowKit Go.Proofs.aC Go.Proofs.au Go.Proofs.aA
structure Nj (S:SM) (bad:Nat) (Z:Nat→Prop) (rk:Nat→Nat):Prop where
 un:zG S Z rk
 rk:∀ v,Z v→rk v<S.value.length
 lt:bad<S.cls.length
 z:∀ l∈S.cl bad,Z (l/2)
 len:(S.cl bad).length≤100000
structure aey (S:SM) (bad:Nat) (Z:Nat→Prop) (rk:Nat→Nat):Prop where
 en:S.ends.length=0→Nj S bad Z rk
 lr:S.ends.length≠0→S.learned.length<S.conf→aec S bad Z rk∧(S.learn bad).2.1.length≤100000∧(S.learn bad).1.words≤1000000000 ∧
  (¬ (S.learn bad).1.most<(S.learn bad).1.words+(S.learn bad).2.1.length+2→abr (S.learn bad).1 (S.learn bad).2.1 (S.learn bad).2.2.1 (S.learn bad).2.2.2)
section
variable {B:Nat} {w0 w:World} {p:Nat} {M:MM} {F:HP}
theorem rY {Z:Nat→Prop} {rk:Nat→Nat} (bad:Nat) (h:At B w0 w p M F) (hok:Nj M.sv bad Z rk) :
  Calls Tryz.prog 71 #[.pointer (some ⟨p,0,none⟩),.int .i64 bad] w fun e w'=>e=.returned (.tuple #[])∧∃ M',At B w0 w' p M' F∧M'.sv=M.sv.ended bad:=by
 have nQ:M.sv.cls.length=M.cls.xs.length:=by show (M.cls.xs.map _).length=_;rw[List.length_map]
 exact UZ bad h hok.un hok.rk (by rw[←nQ];exact hok.lt) hok.z hok.len
theorem abA {Z:Nat→Prop} {rk:Nat→Nat} (bad:Nat) (h:At B w0 w p M F) (hok:aey M.sv bad Z rk) :
  Calls Tryz.prog 74 #[.pointer (some ⟨p,0,none⟩),.int .i64 bad] w fun e w'=>e=.returned (.tuple #[.bool (M.sv.kr bad).2.1,.int .i64 (M.sv.kr bad).2.2])∧∃ M',At B w0 w' p M' F∧M'.sv=(M.sv.kr bad).1:=by
 obtain⟨ne,hne⟩:∃ n,M.ends.xs.length=n:=⟨_,rfl⟩;obtain⟨nl,hnl⟩:∃ n,M.learned.xs.length=n:=⟨_,rfl⟩;obtain⟨cf,hcf⟩:∃ n,M.conf=n:=⟨_,rfl⟩;have hat:=KE h;rw[hne] at hat
 have HAT:=zH hat
 have H:=zH h;have fA:=zH hok;have hne2:M.sv.ends.length=ne:=hne;have ahm:M.sv.learned.length=nl:=by show (M.learned.xs.map _).length=nl;rw[List.length_map];exact hnl
 have ahn:M.sv.conf=cf:=hcf;have c18:=h.nC;have c1:=h.adC;rw[hnl] at c18;rw[hcf] at c1;have tL:=zH hne2;have vR:=zH ahm;have HCF:=zH ahn;clear h hok hat hne hnl hcf hne2 ahm ahn
 go_enter Tryz.func74,Tryz.ntmps74
 go_wp2_with fail
 refine HAT.out.mono ?_
 rintro e w1 ⟨rfl,rfl⟩
 by_cases h0:ne=0
 ·subst h0;have e1:decide (((0:Nat):Int)=0)=true:=by simp
  have HE:=zH (rY bad H.out (fA.out.en tL.out));have HM:=zH (show M.sv.kr bad=(M.sv.ended bad,false,0) by unfold SM.kr;rw[if_pos tL.out])
  go_wp2_with fail
  refine HE.out.mono ?_
  rintro e w2 ⟨rfl,M2,h2,h3⟩
  have H2:=zH h2;have HS2:=zH h3;clear h2 h3 HE
  go_wp2
  go_ret2
  exact⟨by rw[HM.out];rfl,M2,H2.out,by rw[HM.out];exact HS2.out⟩
 ·have e1:decide ((ne:Int)=0)=false:=by simp;omega
  go_upto_region 4 with fail
  by_cases h1:cf≤nl
  ·have e2:decide ((cf:Int)≤(nl:Int))=true:=by simp;omega
   have HM:=zH (show M.sv.kr bad=(M.sv,false,131) by unfold SM.kr;rw[if_neg (by rw[tL.out];exact h0),if_pos (by rw[vR.out,HCF.out];exact h1)])
   go_quiet (fail)
   go_wp2
   go_ret2
   exact⟨by rw[HM.out];rfl,M,H.out.drewN _,by rw[HM.out]⟩
  ·have e2:decide ((cf:Int)≤(nl:Int))=false:=by simp;omega
   obtain⟨l1,l2,l3,l4⟩:=fA.out.lr (by rw[tL.out];exact h0) (by rw[vR.out,HCF.out];omega)
   have hm:M.sv.kr bad=if (M.sv.learn bad).1.most<(M.sv.learn bad).1.words+(M.sv.learn bad).2.1.length+2 then ((M.sv.learn bad).1,false,111) else ((M.sv.learn bad).1.keep (M.sv.learn bad).2.1 (M.sv.learn bad).2.2.1 (M.sv.learn bad).2.2.2,true,0):=by
    unfold SM.kr;rw[if_neg (by rw[tL.out];exact h0),if_neg (by rw[vR.out,HCF.out];exact h1)]
   go_quiet (fail)
   revert nq;intro nq1;have HLR:=zH (U0 bad (H.out.drewN nq1) l1);obtain⟨R,hR⟩:∃ R,M.sv.learn bad=R:=⟨_,rfl⟩;rw[hR] at HLR l2 l3 l4 hm;have HM:=zH hm;have HL2:=zH l2;have HL3:=zH l3;have HL4:=zH l4;clear l1 l2 l3 l4 hm hR c18 c1 e2
   go_wp2_with fail
   refine HLR.out.mono ?_
   rintro e w2 ⟨a,b,c,u,st,li,fr,rfl,h2,h3,h4,h5⟩
   obtain⟨M2,hM2⟩:∃ M2,(M.aP a b c).dJ u st=M2:=⟨_,rfl⟩;rw[hM2] at h2 h3;obtain⟨la,hla⟩:∃ a,(li.a.map fun b=>(⟨b,0,none⟩:Addr))=a:=⟨_,rfl⟩;obtain⟨fa,hfa⟩:∃ a,(fr.a.map fun b=>(⟨b,0,none⟩:Addr))=a:=⟨_,rfl⟩;obtain⟨n,hn⟩:∃ n,li.xs.length=n:=⟨_,rfl⟩;obtain⟨m,hm⟩:∃ m,fr.xs.length=m:=⟨_,rfl⟩;have hlv:li.v=.slice la n li.c:=by unfold Fl.v;rw[hla,hn]
   have hfv:fr.v=.slice fa m fr.c:=by unfold Fl.v;rw[hfa,hm]
   rw[hlv,hfv];have h6:=h2.box #[.slice la n li.c,.slice fa m fr.c,.int .i64 (R.2.2.2:Nat)] 129;obtain⟨r0,hr0⟩:∃ r,w2.heap.size=r:=⟨_,rfl⟩;rw[hr0] at h6;obtain⟨jo,jN⟩:∃ l,R.2.2.2=l:=⟨_,rfl⟩;rw[jN] at h6 ⊢;have HS2:=zH h3;have HX:=zH h4;have HY:=zH h5;have HN:=zH hn;have Ig:=zH hlv;have HFV:=zH hfv;have abm:=zH jN;clear h2 h3 h4 h5 hM2 hla hfa hn hm hlv hfv HLR jN
   go_upto_region 7 with fail
   try rw[hr0]
   clear hr0;revert h6;generalize w2.alloc (Obj.cells #[.slice la n li.c,.slice fa m fr.c,.int .i64 (jo:Nat)] 129)=w3;intro h6;have k0:=(h6.cu 0).1;have k1:=(h6.cu 1).1;have k2:=(h6.cu 2).1;simp only[List.getElem?_cons_succ,List.getElem?_cons_zero] at k0 k1 k2;have hw2:M2.words=R.1.words:=congrArg SM.words HS2.out;have hm2:M2.most=R.1.most:=congrArg SM.most HS2.out;have hr:=Js n h6 (by have:=HL2.out;rw[←HX.out,HN.out] at this;omega) (by rw[hw2];exact HL3.out);have HRM:=zH hr;have H6:=zH h6;have Qq:=zH (show R.2.1.length=n by rw[←HX.out];exact HN.out)
   by_cases hroom:R.1.words+n+2≤R.1.most
   ·have hb:decide (M2.words+n+2≤M2.most)=true:=by rw[hw2,hm2];simpa using hroom
    rw[hb] at HRM;have hm:=HM.out;rw[if_neg (by rw[Qq.out];omega)] at hm;have uf:=zH hm;clear hr h6 hw2 hm2 hb hm HM
    go_wp2_with fail
    refine HRM.out.mono ?_
    rintro e w4 ⟨rfl,hd⟩
    have h7:=H6.out.drawn hd;have j0:=(h7.cu 0).1;have j1:=(h7.cu 1).1;have j2:=(h7.cu 2).1;simp only[List.getElem?_cons_succ,List.getElem?_cons_zero] at j0 j1 j2;have hk:=Yn (M:=M2) li fr jo ((h7).frame (show _=star (li.hp 98 vL) (star (fr.hp 3 vI) (star (pt r0 129 [.slice la n li.c,.slice fa m fr.c,.int .i64 jo]) F)) by ac_rfl)) (by rw[HS2.out,HX.out,HY.out,←abm.out];exact HL4.out (by rw[Qq.out];omega));rw[Ig.out,HFV.out] at hk;have HK:=zH hk;clear h7 hk hd k0 k1 k2 HRM H6
    go_wp2_with fail
    refine HK.out.mono ?_
    rintro e w5 ⟨rfl,M5,h8,h9⟩
    have H8:=zH h8;have WL:=zH h9;clear h8 h9 HK
    go_wp2
    go_ret2
    exact⟨by rw[uf.out];rfl,M5,H8.out.iL,by rw[uf.out,WL.out,HS2.out,HX.out,HY.out,abm.out]⟩
   ·have hb:decide (M2.words+n+2≤M2.most)=false:=by rw[hw2,hm2];simpa using hroom
    rw[hb] at HRM;have hm:=HM.out;rw[if_pos (by rw[Qq.out];omega)] at hm;have uf:=zH hm;clear hr h6 hw2 hm2 hb hm HM
    go_wp2_with fail
    refine HRM.out.mono ?_
    rintro e w4 ⟨rfl,hd⟩
    have H7:=zH (((H6.out.drawn hd).frame (show _=star (star (pt r0 129 [.slice la n li.c,.slice fa m fr.c,.int .i64 jo]) (star (li.hp 98 vL) (fr.hp 3 vI))) F by ac_rfl)).iL);clear hd HRM H6
    go_wp2
    go_ret2
    exact⟨by rw[uf.out];rfl,M2,H7.out,by rw[uf.out];exact HS2.out⟩
end
structure aho (S:SM) (id:Nat):Prop where
 ng:S.given.length≤1000000
 lits:∀ x∈gl S.given id,x.natAbs≤65536
 len:(gl S.given id).length≤1000000
 lk:MF S
 lv:∀ x∈gl S.given id,aJ x/2<S.value.length
 cn:S.cls.length≤1000000
structure Rc (S:SM):Prop where
 ok:jR (S.value.length+2) S
 run:SM.jr (S.value.length+2) S=some S.follow
 num:S.follow.2=-1∨0≤S.follow.2
def started (S:SM):SM×Int:=if (S.begin_ S.fresh).2=-1 then (S.begin_ S.fresh).1.follow else S.begin_ S.fresh
def pW:Nat→SM→Prop
 | 0,S=>S.given.length≤1000000
 | f+1,S=>aho S S.fresh∧((S.begin_ S.fresh).2=-1→Rc (S.begin_ S.fresh).1) ∧
  ((started S).2=-1→pW f { (started S).1 with fresh:=(started S).1.fresh+1 }∧(started S).1.given=S.given∧(started S).1.fresh=S.fresh) ∧
  ((started S).2≠-1→0≤(started S).2∧∃ Z rk,Nj (started S).1 (started S).2.toNat Z rk)
theorem Aa (f:Nat) (S:SM):SM.lJ (f+1) S=if (started S).2=-1 then SM.lJ f { (started S).1 with fresh:=(started S).1.fresh+1 } else ((started S).1.ended (started S).2.toNat,false):=rfl
section
variable {B:Nat} {w0 w:World} {p:Nat} {M:MM} {F:HP}
theorem rZ (h:At B w0 w p M F) (hok:Rc M.sv) :
  Calls Tryz.prog 70 #[.pointer (some ⟨p,0,none⟩)] w fun e w'=>e=.returned (.int .i64 M.sv.follow.2)∧∃ M',At B w0 w' p M' F∧M'.sv=M.sv.follow.1:=MU _ h hok.run hok.ok
theorem Vb (h:At B w0 w p M F) (hok:pW (M.sv.given.length-M.sv.fresh) M.sv) (hgl:M.sv.given.length≤1000000) (hfr:M.sv.fresh≤M.sv.given.length) :
  Calls Tryz.prog 72 #[.pointer (some ⟨p,0,none⟩)] w fun e w'=>e=.returned (.bool M.sv.start.2)∧∃ M',At B w0 w' p M' F∧M'.sv=M.sv.start.1:=by
 obtain⟨R,hR⟩:∃ R,M.sv.start=R:=⟨_,rfl⟩;rw[hR];obtain⟨gn,hgn⟩:∃ n,M.sv.given.length=n:=⟨_,rfl⟩;rw[hgn] at hgl hfr hok;have H:=zH h;have fA:=zH hok;have MP:=zH hfr;have HR:=zH (show SM.lJ (gn-M.sv.fresh) M.sv=R by rw[←hR,←hgn];rfl);have HGN:=zH hgn;clear h hok hR hgn hfr
 go_enter Tryz.func72,Tryz.ntmps72
 go_wp2
 go_loopg [] (gn-M.sv.fresh) (fun g wr=>∃ N:MM,Hid (At B w0 wr p N F)∧Hid (SM.lJ g N.sv=R)∧Hid (pW g N.sv)∧Hid (g=gn-N.sv.fresh∧N.sv.given.length=gn∧N.sv.fresh≤gn))
 case atStart=>exact⟨M,H,HR,fA,⟨rfl,HGN.out,MP.out⟩⟩
 case round =>
  obtain⟨N,H0,HG,HO,HE⟩:=hrel;obtain⟨k,hk⟩:∃ k,N.fresh=k:=⟨_,rfl⟩;have hg2:N.given.xs.length=gn:=by have h9:=HE.out.2.1;rw[show N.sv.given.length=N.given.xs.length by show (N.given.xs.map _).length=_;rw[List.length_map]] at h9;exact h9
  have c4:=H0.out.SK;have c3:=H0.out.rM;rw[hk] at c4;rw[hg2] at c3;have HK:=zH (show N.sv.fresh=k from hk);have hkg:=HE.out.2.2;rw[HK.out] at hkg;have HG2:=zH hg2;clear hk hg2
  by_cases hlt:k<gn
  ·have e1:decide ((k:Int)<(gn:Int))=true:=by simp;omega
   obtain⟨g,rfl⟩:∃ g,gk=g+1:=⟨gn-k-1,by have h9:=HE.out.1;rw[HK.out] at h9;omega⟩;obtain⟨o1,o2,o3,o4⟩:=HO.out;rw[HK.out] at o1 o2;have hgo:=HG.out;rw[Aa] at hgo;have HO2:=zH o2;have HO3:=zH o3;have HO4:=zH o4;have FR:=zH hgo;have hcl:N.cls.xs.length≤1000000:=by have h9:=o1.cn;rw[show N.sv.cls.length=N.cls.xs.length by show (N.cls.xs.map _).length=_;rw[List.length_map]] at h9;exact h9
   have Wp:=zH o1;have jW:=zH hcl;clear o1 o2 o3 o4 hgo HO HG hcl
   go_upto_region 1 with fail
   go_quiet (fail)
   revert nq;intro nq1;have H1:=zH (H0.out.drewN nq1);have HB:=zH (QM k H1.out (by rw[HG2.out];exact hlt) (by rw[HG2.out];exact hgl) Wp.out.lits Wp.out.len Wp.out.lk Wp.out.lv jW.out);have c4b:(wr.drewN nq1).cell? ⟨p,4,none⟩=some (.int .i64 k):=c4;clear c4 c3 H0;revert H1 HB c4b;generalize wr.drewN nq1=w1;intro H1 HB c4b;obtain⟨b,hb⟩:∃ b,(N.sv.begin_ k).2=b:=⟨_,rfl⟩;rw[hb] at HB;have Hw:=zH hb;clear hb
   go_wp2_with fail
   refine HB.out.mono ?_
   rintro e w2 ⟨rfl,N2,h2,h3⟩
   have H2:=zH h2;have HS2:=zH h3;clear h2 h3 HB c4b
   have key:∀ (N3:MM) (w3:World),At B w0 w3 p N3 F→N3.sv=(started N.sv).1→(started N.sv).2=-1→At B w0 (w3.setCell ⟨p,4,none⟩ (.int .i64 ((k+1:Nat):Int))) p (N3.rJ (k+1)) F∧w3.cell? ⟨p,4,none⟩=some (.int .i64 k)∧SM.lJ g (N3.rJ (k+1)).sv=R∧pW g (N3.rJ (k+1)).sv∧(g=gn-(k+1)∧(N3.rJ (k+1)).sv.given.length=gn∧k+1≤gn):=by
    intro N3 w3 h3 hs hm;obtain⟨q1,q2,q3⟩:=HO3.out hm
    have hf3:N3.fresh=k:=by
     have h9:N3.fresh=(started N.sv).1.fresh:=congrArg SM.fresh hs;rw[h9,q3,HK.out]
    have hsv:MM.sv (N3.rJ (k+1))={ (started N.sv).1 with fresh:=(started N.sv).1.fresh+1 }:=by
     rw[←hs,show (MM.sv N3).fresh=k from hf3];rfl
    have hgo:=FR.out;rw[if_pos hm] at hgo;refine⟨h3.Uq (k+1),by have c:=h3.SK;rw[hf3] at c;exact c,by rw[hsv];exact hgo,by rw[hsv];exact q1,by have h9:=HE.out.1;rw[HK.out] at h9;omega,by rw[hsv];show (started N.sv).1.given.length=gn;rw[q2];exact HE.out.2.1,by omega⟩
   have HKEY:=zH key;clear key
   by_cases hb1:b=-1
   ·subst hb1;have e2:decide ((-1:Int)=-1)=true:=by simp
    have hst:started N.sv=(N.sv.begin_ k).1.follow:=by unfold started;rw[HK.out,if_pos Hw.out]
    have HST:=zH hst;have HF:=zH (rZ H2.out (by rw[HS2.out];exact HO2.out Hw.out));obtain⟨b2,hb2⟩:∃ b2,(started N.sv).2=b2:=⟨_,rfl⟩;rw[HS2.out,←hst,hb2] at HF;have HB2:=zH hb2;clear hst hb2
    go_wp2_with fail
    refine HF.out.mono ?_
    rintro e w3 ⟨rfl,N3,h3,h4⟩
    by_cases hb3:b2=-1
    ·subst hb3;have e3:decide ((-1:Int)=-1)=true:=by simp
     obtain⟨z1,z2,z3,z4,z5⟩:=HKEY.out N3 w3 h3 h4 HB2.out;have f4:=h3.fz 4;have Z1:=zH z1;have Z3:=zH z3;have Z4:=zH z4;have Z5:=zH z5;clear z1 z3 z4 z5 h3 h4 HF
     go_wp2
     go_roundg g
     case measure=>omega
     case rel=>exact⟨N3.rJ (k+1),Z1.out,Z3.out,Z4.out,Z5.out⟩
    ·have e3:decide (b2=-1)=false:=by simpa using hb3
     obtain⟨n,hn⟩:∃ n:Nat,b2=n:=⟨b2.toNat,by have h9:=(HO4.out (by rw[HB2.out];exact hb3)).1;rw[HB2.out] at h9;omega⟩;subst hn;obtain⟨_,Zz,rkk,hen⟩:=HO4.out (by rw[HB2.out];exact hb3);rw[HB2.out,Int.toNat_natCast] at hen;have HE2:=zH (rY n h3 (by rw[h4];exact hen));have hgo:=FR.out;rw[if_neg (by rw[HB2.out];exact hb3),HB2.out,Int.toNat_natCast] at hgo;have ku:=zH hgo;have A9:=zH h4;clear hen hgo
     go_wp2_with fail
     refine HE2.out.mono ?_
     rintro e w9 ⟨rfl,M9,h9,h10⟩
     have H9:=zH h9;have DJ:=zH h10;clear h9 h10
     go_wp2
     go_ret
     exact⟨by rw[←ku.out];rfl,M9,H9.out,by rw[←ku.out,DJ.out,A9.out]⟩
   ·have e2:decide (b=-1)=false:=by simpa using hb1
    have hst:started N.sv=N.sv.begin_ k:=by unfold started;rw[HK.out,if_neg (by rw[Hw.out];exact hb1)]
    have HB2:=zH (show (started N.sv).2=b by rw[hst];exact Hw.out);have h4:N2.sv=(started N.sv).1:=by rw[hst];exact HS2.out
    obtain⟨n,hn⟩:∃ n:Nat,b=n:=⟨b.toNat,by have h9:=(HO4.out (by rw[HB2.out];exact hb1)).1;rw[HB2.out] at h9;omega⟩;subst hn;obtain⟨_,Zz,rkk,hen⟩:=HO4.out (by rw[HB2.out];exact hb1);rw[HB2.out,Int.toNat_natCast] at hen;have HE2:=zH (rY n H2.out (by rw[h4];exact hen));have hgo:=FR.out;rw[if_neg (by rw[HB2.out];exact hb1),HB2.out,Int.toNat_natCast] at hgo;have ku:=zH hgo;have A9:=zH h4;clear hen hgo
    go_wp2_with fail
    refine HE2.out.mono ?_
    rintro e w9 ⟨rfl,M9,h9,h10⟩
    have H9:=zH h9;have DJ:=zH h10;clear h9 h10
    go_wp2
    go_ret
    exact⟨by rw[←ku.out];rfl,M9,H9.out,by rw[←ku.out,DJ.out,A9.out]⟩
  ·have e1:decide ((k:Int)<(gn:Int))=false:=by simp;omega
   obtain rfl:gk=0:=by have h9:=HE.out.1;rw[HK.out] at h9;omega
   have FR:=zH (show R=(N.sv,true) from HG.out.symm)
   go_upto_region 1 with fail
   go_quiet (fail)
   go_wp2
   go_ret
   exact⟨by rw[FR.out];rfl,N,H0.out.drewN _,by rw[FR.out]⟩
end
end Go.Proofs.YthbbmdnfkkffjaaGreat
namespace Go.Proofs.YthbbmdnfkkffjaaGreat
open Go.Proofs.au Go.Proofs.aA
theorem FT {S:SM} {i:Nat} (h:∀ e∈S.ends,e≤i):dM S i=S.ends.length:=by
 unfold dM;rw[List.countP_eq_length];intro a ha;simpa using h a ha
theorem nR.nT {S:SM} (h:nR S) {l:Nat} (hl:S.bF l≠0):gn S.level (l/2)≤S.ends.length:=by
 have hv:gi S.value (l/2)≠0:=fun e=>hl (gX.2 e)
 have hlt:l/2<S.value.length:=by
  apply Classical.byContradiction;intro k;exact hv (rT (by omega))
 obtain⟨i,hi,e⟩:=h.all _ hlt hv;rw[←e,h.jo i hi];exact YthbbmdnfkkffjaaGreat.nT S i
theorem fG.up {S:SM} (h:fG S) (hn:S.next<S.trail.length):S.bF (negL (gn S.trail S.next))=-1∧negL (gn S.trail S.next)<S.aj.length∧negL (gn S.trail S.next)<1000000∧gn S.level (negL (gn S.trail S.next)/2)=S.ends.length:=by
 have h1:=h.tr.lt _ hn;have h2:=h.hp.hi.hb.small;have h3:=h.tr.sz.aj;have h4:=bT (gn S.trail S.next);refine⟨by rw[rR,h.tr.is _ hn],by omega,by omega,?_⟩;rw[bT,h.tr.jo _ hn,FT h.en]
theorem YG {S:SM} {l:Nat} (h:fG S) (qz:l<S.aj.length) (hf:S.bF l=-1) :
  S.inner l=kN l (gN S.aj l).length S 0∧(S.cls.length≤1000000→lN (gN S.aj l).length S l 0 0):=by
 have hw:whole S l 0 0=gN S.aj l:=by unfold whole;simp
 have:=yF (l:=l) (gN S.aj l).length S 0 0 (by omega) (Nat.le_refl _) qz hf (by rw[hw,Jq qz];exact h);rw[hw,Jq qz] at this;exact⟨this.1,fun hn=>this.2 hn (Nat.le_trans (h.wa.len l) hn)⟩
def nx (S:SM) (n:Nat):SM:={ S with next:=n }
theorem rX.nx {S T:SM} (h:rX S T) (n:Nat):rX (nx S n) (nx T n):=by
 obtain⟨hs,a,b,c,d,e,f⟩:=h;exact⟨by obtain⟨cs,ws,va,le,re,t,rfl⟩:=hs;exact⟨cs,ws,va,le,re,t,rfl⟩,a,b,c,d,e,f⟩
theorem fG.next {S:SM} (h:fG S) (hn:S.next<S.trail.length) (hok:∀ r∈gN S.aj (negL (gn S.trail S.next)),OkW S (negL (gn S.trail S.next)) r):fG (nx S (S.next+1)):=by
 obtain⟨hf,qz,_,jN⟩:=h.up hn;refine⟨h.tr.congr ⟨h.tr.sz.level,h.tr.sz.reason,h.tr.sz.phase,h.tr.sz.occurs,h.tr.sz.units,h.tr.sz.aj⟩ rfl rfl rfl rfl rfl (Nat.le_refl _) (fun _ _ _=>Iff.rfl),⟨h.cl.nd,h.cl.two⟩,⟨h.wa.nd,h.wa.iff⟩,⟨⟨⟨h.hp.hi.hb.small,h.hp.hi.hb.vars,h.hp.hi.hb.place,h.hp.hi.hb.met,h.hp.hi.hb.hl⟩,h.hp.hi.pl,h.hp.hi.bk⟩,h.hp.nz,h.hp.all⟩,fun r hr h2=>?_,hn,fun e he=>Nat.le_succ_of_le (h.en e he)⟩;obtain⟨a,b⟩:=h.pi r hr h2;change r<S.cls.length at hr;change 2≤(S.cl r).length at h2
 have key:∀ x y,(x=gn (S.cl r) 0∧y=gn (S.cl r) 1∨x=gn (S.cl r) 1∧y=gn (S.cl r) 0)→TB S S.next x y→TB (YthbbmdnfkkffjaaGreat.nx S (S.next+1)) (S.next+1) x y:=fun x y hxy hp hk=>by
  obtain⟨i,h1,h3,h4⟩:=hk;change i<S.trail.length at h3;change gn S.trail i=negL x at h4
  by_cases e:i=S.next
  ·subst e;have hx:x=negL (gn S.trail S.next):=by rw[h4,Ji]
   have hmem:r∈gN S.aj (negL (gn S.trail S.next)):=(h.wa.iff _ r).2 ⟨hr,h2,by rcases hxy with ⟨p,_⟩ | ⟨p,_⟩ <;> rw[←hx,p] <;> simp⟩
   have ho:=hok r hmem
   have hy:S.bF y=1:=by
    rcases hxy with ⟨p,q⟩ | ⟨p,q⟩
    ·rw[q];exact ho.1 (by rw[←p];exact hx)
    ·rw[q];exact ho.2 (by rw[←p];exact hx)
   refine⟨hy,?_⟩;show gn S.level (y/2)≤gn S.level (x/2);rw[hx,jN];exact h.tr.nT (by omega)
  ·exact hp ⟨i,by omega,h3,h4⟩
 exact⟨key _ _ (.inl ⟨rfl,rfl⟩) a,key _ _ (.inr ⟨rfl,rfl⟩) b⟩
structure Fold (S:SM) (R:SM×Int):Prop where
 fo:fG R.1
 fwd:rX (nx S R.1.next) R.1
 out:(R.2=-1∧R.1.next=R.1.trail.length)∨∃ r:Nat,R.2=r∧zY R.1 r∧∃ l∈R.1.cl r,gn R.1.level (l/2)=R.1.ends.length
theorem FU:∀ (f:Nat) (S:SM),S.value.length+1≤f+S.next→fG S→∃ R,SM.jr f S=some R∧Fold S R∧(S.cls.length≤1000000→jR f S)
 | 0,S,hfu,h=>by
  have:=h.ne;have:=h.tr.len;omega
 | f+1,S,hfu,h=>by
  rw[SM.jr];have hsm:=h.hp.hi.hb.small;have htl:=h.tr.len;have hne:=h.ne
  by_cases hn:S.next<S.trail.length
  ·rw[if_pos hn];obtain⟨hf,qz,Ye,jN⟩:=h.up hn;obtain⟨l,hl⟩:∃ l,negL (gn S.trail S.next)=l:=⟨_,rfl⟩;rw[hl] at hf qz jN Ye ⊢;obtain⟨he,hio⟩:=YG h qz hf;obtain⟨a,b,c⟩:=yE (gN S.aj l).length S 0 (by omega) h hf qz (fun j hj=>by omega);rw[←he] at a b c;have hgn:gn (S.inner l).1.trail (S.inner l).1.next=gn S.trail S.next:=by rw[b.next];exact b.gn hn
   have hlt:(S.inner l).1.next<(S.inner l).1.trail.length:=by rw[b.next];have:=b.le;omega
   have hstart:S.cls.length≤1000000→S.trail.length≤900000∧S.next≤900000∧(gN S.aj l).length≤1000000∧lN (gN S.aj l).length S l 0 0:=fun hc=>⟨by omega,by omega,by have:=h.wa.len l;omega,hio hc⟩;rcases c with ⟨e,hok⟩ | ⟨r,e,hno,hmem⟩
   ·rw[if_pos e];have hF:=a.next hlt (by rw[hgn,hl];exact hok);rw[show (S.inner l).1.next+1=S.next+1 by rw[b.next]] at hF;obtain⟨R,h1,h2,h3⟩:=FU f (nx (S.inner l).1 (S.next+1)) (by show (S.inner l).1.value.length+1≤f+(S.next+1);rw[b.gL];omega) hF;refine⟨R,h1,⟨h2.fo,?_,h2.out⟩,fun hc=>?_⟩
    ·exact (b.nx R.1.next).trans h2.fwd
    ·obtain⟨p1,p2,p3,p4⟩:=hstart hc;rw[jR];refine⟨p1,p2,fun _=>⟨by rw[hl];exact Ye,by rw[hl];exact qz,by rw[hl];exact p3,by rw[hl];exact p4,fun _=>by rw[hl];exact h3 (by show (S.inner l).1.cls.length≤_;rw[b.mX];exact hc)⟩⟩
   ·rw[if_neg (by rw[e];omega)];refine⟨_,rfl,⟨a,?_,.inr ⟨r,e,hno,l,hmem,?_⟩⟩,fun hc=>?_⟩
    ·have:=b;rw[b.next];exact b
    ·rw[b.jo (by omega),jN,b.ends]
    ·obtain⟨p1,p2,p3,p4⟩:=hstart hc;rw[jR];refine⟨p1,p2,fun _=>⟨by rw[hl];exact Ye,by rw[hl];exact qz,by rw[hl];exact p3,by rw[hl];exact p4,fun k=>?_⟩⟩;rw[hl,e] at k;omega
  ·rw[if_neg hn];refine⟨_,rfl,⟨h,rX.refl S,Or.inl ⟨rfl,show S.next=S.trail.length by omega⟩⟩,fun hc=>?_⟩;rw[jR];exact⟨by omega,by omega,fun k=>absurd k hn⟩
theorem iN {S:SM} (h:fG S):Fold S S.follow∧(S.cls.length≤1000000→Rc S):=by
 obtain⟨R,h1,h2,h3⟩:=FU (S.value.length+2) S (by omega) h;have e:S.follow=R:=by unfold SM.follow;rw[h1];rfl
 rw[e];refine⟨h2,fun hc=>⟨h3 hc,by rw[e];exact h1,?_⟩⟩;rw[e];rcases h2.out with ⟨a,_⟩ | ⟨r,a,_⟩
 ·exact .inl a
 ·right;omega
theorem qB {l:List Bool} {i j:Nat} {v:Bool} (h:i<l.length):gB (l.set i v) j=if j=i then v else gB l j:=by
 by_cases e:j=i
 ·subst e;simp[gB,List.getD_eq_getElem?_getD,h]
 ·rw[if_neg e];simp[gB,List.getD_eq_getElem?_getD,List.getElem?_set_ne (Ne.symm e)]
structure Met (S:SM) (A:AM):Prop where
 ml:A.met.length=S.value.length
 on:∀ v,gB A.met v=true→∃ j,j<S.trail.length∧gn S.trail j/2=v
 z:∀ v,v∈A.zero↔gB A.met v=true∧gn S.level v=0
 zn:A.zero.Nodup
 l0:∃ ls,A.lits=0 :: ls∧(ls.map (·/2)).Nodup∧(∀ x∈ls,gB A.met (x/2)=true∧S.bF x=-1∧0<gn S.level (x/2)∧gn S.level (x/2)<S.ends.length) ∧
  ∀ v,gB A.met v=true→0<gn S.level v→gn S.level v<S.ends.length→∃ x∈ls,x/2=v
def cur (S:SM) (A:AM) (j:Nat):Bool:=gB A.met (gn S.trail j/2)&&gn S.level (gn S.trail j/2)==S.ends.length
def cnt (S:SM) (A:AM) (i:Nat):Nat:=(List.range i).countP (cur S A)
theorem nX (S:SM) (A:AM) (i:Nat):cnt S A (i+1)=cnt S A i+if cur S A i=true then 1 else 0:=by
 unfold cnt;rw[List.range_succ,List.countP_append,List.countP_cons,List.countP_nil];simp
theorem Ab {S:SM} {A B:AM}:∀ {i:Nat},(∀ j,j<i→cur S A j=cur S B j)→cnt S A i=cnt S B i
 | 0,_=>rfl
 | i+1,h=>by rw[nX,nX,Ab (i:=i) (fun j hj=>h j (by omega)),h i (by omega)]
theorem TF {S:SM} {A B:AM} {k:Nat}:∀ {i:Nat},k<i→(∀ j,j<i→j≠k→cur S A j=cur S B j)→cur S A k=false→cur S B k=true→cnt S B i=cnt S A i+1
 | 0,hk,_,_,_=>by omega
 | i+1,hk,h,h1,h2=>by
  rw[nX,nX]
  by_cases e:k=i
  ·subst e;rw[h1,h2,Ab (A:=A) (B:=B) (i:=k) (fun j hj=>h j (by omega) (by omega))];simp
  ·rw[TF (k:=k) (i:=i) (by omega) (fun j hj=>h j (by omega)) h1 h2,h i (by omega) (by omega)];omega
structure TG (S0 S:SM) (A:AM) (ls:List Nat) (but i n:Nat) (R:SM×AM×Nat):Prop where
 ho:dQ S R.1
 met:Met S0 R.2.1
 sub:∀ v,gB A.met v=true→gB R.2.1.met v=true
 all:∀ x∈ls,x≠but→gB R.2.1.met (x/2)=true
 fr:R.2.1.fr=A.fr
 num:cnt S0 R.2.1 i+n=cnt S0 A i+R.2.2
 new:∀ j,i≤j→j<S0.trail.length→gB R.2.1.met (gn S0.trail j/2)=true→gB A.met (gn S0.trail j/2)=true
theorem r9 {S:SM} {A B:AM} {v:Nat} (h:Met S A) (hv:v<S.value.length) (hB:B.met=A.met.set v true) (u:Nat):gB B.met u=true↔u=v∨gB A.met u=true:=by
 rw[hB,qB (by rw[h.ml];exact hv)]
 by_cases e:u=v
 ·simp[e]
 ·simp[e]
theorem abC {S:SM} {A B:AM} {v k j:Nat} (ht:nR S) (h:Met S A) (hv:v<S.value.length) (hB:B.met=A.met.set v true) (hk:k<S.trail.length) (hkv:gn S.trail k/2=v) (hj:j<S.trail.length) (hne:j≠k):cur S A j=cur S B j:=by
 have h1:gn S.trail j/2≠v:=fun e=>hne (ht.inj j k hj hk (by rw[e,hkv]));unfold cur;rw[hB,qB (by rw[h.ml];exact hv),if_neg h1]
theorem Met.Rf {S:SM} {A B:AM} {v k:Nat} (h:Met S A) (hv:v<S.value.length) (hB:B.met=A.met.set v true) (hk:k<S.trail.length) (hkv:gn S.trail k/2=v):∀ u,gB B.met u=true→∃ j,j<S.trail.length∧gn S.trail j/2=u:=fun u hu=>by
 rcases (r9 h hv hB u).1 hu with rfl | hu
 ·exact⟨k,hk,hkv⟩
 ·exact h.on u hu
theorem Met.zero {S:SM} {A:AM} {v k:Nat} (h:Met S A) (hv:v<S.value.length) (hk:k<S.trail.length) (hkv:gn S.trail k/2=v) (hn:gB A.met v=false) (h0:gn S.level v=0) :
  Met S { A with met:=A.met.set v true,zero:=A.zero++[v] }:=by
 have hs:=r9 (B:={ A with met:=A.met.set v true,zero:=A.zero++[v] }) h hv rfl;obtain⟨ls,e1,e2,e3,e4⟩:=h.l0;refine⟨by show (A.met.set v true).length=_;rw[List.length_set];exact h.ml,h.Rf hv rfl hk hkv,fun u=>?_,?_,ls,e1,e2,fun x hx=>?_,fun u hu h1 h2=>?_⟩
 ·rw[hs];show u∈A.zero++[v]↔_;rw[List.mem_append,h.z,List.mem_singleton]
  constructor
  ·rintro (⟨a,b⟩ | rfl)
   ·exact⟨.inr a,b⟩
   ·exact⟨.inl rfl,h0⟩
  ·rintro⟨rfl | a,b⟩
   ·exact .inr rfl
   ·exact .inl ⟨a,b⟩
 ·show (A.zero++[v]).Nodup;rw[List.nodup_append];refine⟨h.zn,by simp,fun a ha b hb e=>?_⟩;rw[List.mem_singleton.1 hb] at e;subst e;have:=((h.z a).1 ha).1;rw[hn] at this;cases this
 ·obtain⟨a,b,c,d⟩:=e3 x hx;exact⟨(hs _).2 (.inr a),b,c,d⟩
 ·rcases (hs u).1 hu with rfl | hu
  ·omega
  ·exact e4 u hu h1 h2
theorem Met.now {S:SM} {A:AM} {v k:Nat} (h:Met S A) (hv:v<S.value.length) (hk:k<S.trail.length) (hkv:gn S.trail k/2=v) (h0:gn S.level v≠0) (h1:gn S.level v=S.ends.length) :
  Met S { A with met:=A.met.set v true }:=by
 have hs:=r9 (B:={ A with met:=A.met.set v true }) h hv rfl;obtain⟨ls,e1,e2,e3,e4⟩:=h.l0;refine⟨by show (A.met.set v true).length=_;rw[List.length_set];exact h.ml,h.Rf hv rfl hk hkv,fun u=>?_,h.zn,ls,e1,e2,fun x hx=>?_,fun u hu h2 h3=>?_⟩
 ·rw[hs];show u∈A.zero↔_;rw[h.z]
  constructor
  ·rintro⟨a,b⟩;exact⟨.inr a,b⟩
  ·rintro⟨rfl | a,b⟩
   ·exact absurd b h0
   ·exact⟨a,b⟩
 ·obtain⟨a,b,c,d⟩:=e3 x hx;exact⟨(hs _).2 (.inr a),b,c,d⟩
 ·rcases (hs u).1 hu with rfl | hu
  ·omega
  ·exact e4 u hu h2 h3
theorem Met.low {S:SM} {A:AM} {l k:Nat} (h:Met S A) (hv:l/2<S.value.length) (hk:k<S.trail.length) (hkv:gn S.trail k/2=l/2) (hf:S.bF l=-1) (hn:gB A.met (l/2)=false) (h0:gn S.level (l/2)≠0) (h1:gn S.level (l/2)<S.ends.length) :
  Met S { A with met:=A.met.set (l/2) true,lits:=A.lits++[l] }:=by
 have hs:=r9 (B:={ A with met:=A.met.set (l/2) true,lits:=A.lits++[l] }) h hv rfl;obtain⟨ls,e1,e2,e3,e4⟩:=h.l0;refine⟨by show (A.met.set _ true).length=_;rw[List.length_set];exact h.ml,h.Rf hv rfl hk hkv,fun u=>?_,h.zn,ls++[l],by show A.lits++[l]=_;rw[e1];rfl,?_,fun x hx=>?_,fun u hu h2 h3=>?_⟩
 ·rw[hs];show u∈A.zero↔_;rw[h.z]
  constructor
  ·rintro⟨a,b⟩;exact⟨.inr a,b⟩
  ·rintro⟨rfl | a,b⟩
   ·exact absurd b h0
   ·exact⟨a,b⟩
 ·rw[List.map_append,List.nodup_append];refine⟨e2,by simp,fun a ha b hb e=>?_⟩;obtain⟨x,hx,rfl⟩:=List.mem_map.1 ha;have:=(e3 x hx).1;rw[List.map_cons,List.map_nil,List.mem_singleton] at hb;rw[e,hb,hn] at this
  cases this
 ·rcases List.mem_append.1 hx with hx | hx
  ·obtain⟨a,b,c,d⟩:=e3 x hx;exact⟨(hs _).2 (.inr a),b,c,d⟩
  ·rw[List.mem_singleton.1 hx];exact⟨(hs _).2 (.inl rfl),hf,by omega,h1⟩
 ·rcases (hs u).1 hu with rfl | hu
  ·exact⟨l,by simp,rfl⟩
  ·obtain⟨x,hx,e⟩:=e4 u hu h2 h3;exact⟨x,List.mem_append_left _ hx,e⟩
theorem dQ.facts {S T:SM} (h:dQ S T):T.level=S.level∧T.ends=S.ends∧T.trail=S.trail∧T.value=S.value∧T.reason=S.reason∧T.cls=S.cls:=by
 obtain⟨a,b,c,rfl⟩:=h.same;exact⟨rfl,rfl,rfl,rfl,rfl,rfl⟩
theorem TG.next {S0 S S1:SM} {A A1:AM} {l but i n n1:Nat} {ls:List Nat} {R:SM×AM×Nat} (h:TG S0 S1 A1 ls but i n1 R) (ho:dQ S S1) (hs:∀ v,gB A.met v=true→gB A1.met v=true)
  (hl:l≠but→gB A1.met (l/2)=true) (hf:A1.fr=A.fr) (hc:cnt S0 A1 i+n=cnt S0 A i+n1) (hn:∀ j,i≤j→j<S0.trail.length→gB A1.met (gn S0.trail j/2)=true→gB A.met (gn S0.trail j/2)=true):TG S0 S A (l :: ls) but i n R:=by
 refine⟨ho.trans h.ho,h.met,fun v hv=>h.sub v (hs v hv),fun x hx hne=>?_,h.fr.trans hf,by have:=h.num;omega,fun j h1 h2 h3=>hn j h1 h2 (h.new j h1 h2 h3)⟩;rcases List.mem_cons.1 hx with rfl | hx
 ·exact h.sub _ (hl hne)
 ·exact h.all x hx hne
theorem jD {S0:SM} (ht:nR S0) (hc:0<S0.ends.length) (but i:Nat) (hi:i≤S0.trail.length):∀ (ls:List Nat) (S:SM) (A:AM) (n:Nat),dQ S0 S→Met S0 A →
  (∀ x∈ls,x≠but→S0.bF x=-1∧∃ k,k<i∧gn S0.trail k=negL x)→TG S0 S A ls but i n (SM.dF but S A n ls)
 | [],S,A,n,ho,hA,_=>⟨dQ.refl S,hA,fun _ h=>h,(fun x hx=>by cases hx),rfl,rfl,fun _ _ _ h=>h⟩
 | l :: r,S,A,n,ho,hA,hls=>by
  obtain⟨f1,f2,f3,f4,f5,f6⟩:=ho.facts;have hr:∀ x∈r,x≠but→S0.bF x=-1∧∃ k,k<i∧gn S0.trail k=negL x:=fun x hx=>hls x (List.mem_cons_of_mem _ hx);rw[SM.dF,f1,f2]
  by_cases hb:l=but∨gB A.met (l/2)=true
  ·rw[if_pos hb];refine (jD ht hc but i hi r S A n ho hA hr).next (dQ.refl S) (fun _ h=>h) (fun hne=>?_) rfl rfl (fun _ _ _ h=>h);exact hb.resolve_left hne
  ·rw[if_neg hb];rw[not_or] at hb;obtain⟨hf,k,hk,hke⟩:=hls l (by simp) hb.1;have hmf:gB A.met (l/2)=false:=by simpa using hb.2
   have hkt:k<S0.trail.length:=by omega
   have hkv:gn S0.trail k/2=l/2:=by rw[hke,bT]
   have hv:l/2<S0.value.length:=by rw[←hkv];exact ht.lt k hkt
   have hom:dQ S (S.meet (l/2)):=nU S _;have ho':=ho.trans hom;have hsub:∀ {B:AM},B.met=A.met.set (l/2) true→(∀ v,gB A.met v=true→gB B.met v=true)∧gB B.met (l/2)=true:=fun hB=>⟨fun v hv'=>(r9 hA hv hB v).2 (.inr hv'),(r9 hA hv hB _).2 (.inl rfl)⟩
   have hnew:∀ {B:AM},B.met=A.met.set (l/2) true→∀ j,i≤j→j<S0.trail.length→gB B.met (gn S0.trail j/2)=true→gB A.met (gn S0.trail j/2)=true:=fun hB j h1 h2 h3=>by
    rcases (r9 hA hv hB _).1 h3 with e | e
    ·have:=ht.inj j k h2 hkt (by rw[e,hkv]);omega
    ·exact e
   have hother:∀ {B:AM},B.met=A.met.set (l/2) true→∀ j,j<i→j≠k→cur S0 A j=cur S0 B j:=fun hB j h1 h2=>abC ht hA hv hB hkt hkv (by omega) h2
   by_cases h0:gn S0.level (l/2)=0
   ·rw[if_pos h0];have hB:=Met.zero hA hv hkt hkv hmf h0;refine (jD ht hc but i hi r _ _ n ho' hB hr).next hom (hsub rfl).1 (fun _=>(hsub rfl).2) rfl ?_ (hnew rfl)
    have:cnt S0 { A with met:=A.met.set (l/2) true,zero:=A.zero++[l/2] } i=cnt S0 A i:=(Ab fun j hj=>by
     by_cases e:j=k
     ·subst e;unfold cur;rw[hkv,h0];have:((0:Nat)==S0.ends.length)=false:=by simp;omega
      rw[this,Bool.and_false,Bool.and_false]
     ·exact hother rfl j hj e).symm
    omega
   ·rw[if_neg h0]
    by_cases h1:gn S0.level (l/2)=S0.ends.length
    ·rw[if_pos h1];have hB:=Met.now hA hv hkt hkv h0 h1;refine (jD ht hc but i hi r _ _ (n+1) ho' hB hr).next hom (hsub rfl).1 (fun _=>(hsub rfl).2) rfl ?_ (hnew rfl)
     have:cnt S0 { A with met:=A.met.set (l/2) true } i=cnt S0 A i+1:=by
      refine TF (k:=k) hk (fun j hj hne=>hother rfl j hj hne) ?_ ?_
      ·unfold cur;rw[hkv,hmf,Bool.false_and]
      ·unfold cur;rw[hkv,(hsub (B:={ A with met:=A.met.set (l/2) true }) rfl).2,h1];simp
     omega
    ·rw[if_neg h1];have hle:=ht.nT (l:=l) (by omega);have hB:=Met.low hA hv hkt hkv hf hmf h0 (by omega);refine (jD ht hc but i hi r _ _ n ho' hB hr).next hom (hsub rfl).1 (fun _=>(hsub rfl).2) rfl ?_ (hnew rfl)
     have:cnt S0 { A with met:=A.met.set (l/2) true,lits:=A.lits++[l] } i=cnt S0 A i:=(Ab fun j hj=>by
      by_cases e:j=k
      ·subst e;unfold cur;rw[hkv];have:(gn S0.level (l/2)==S0.ends.length)=false:=by simp;omega
       rw[this,Bool.and_false,Bool.and_false]
      ·exact hother rfl j hj e).symm
     omega
end Go.Proofs.YthbbmdnfkkffjaaGreat

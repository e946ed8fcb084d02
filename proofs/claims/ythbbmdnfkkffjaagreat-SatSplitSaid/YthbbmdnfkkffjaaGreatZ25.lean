/-
  Parts of the proof, joined by program: Mt, Stt, Pi9.
-/
import Derived.Test.YthbbmdnfkkffjaaGreatZ24
import Derived.Test.YthbbmdnfkkffjaaGreatZ17
import Derived.Test.YthbbmdnfkkffjaaGreatZ23
namespace Go.Proofs.YthbbmdnfkkffjaaGreat
open Go.RowKit Go.Proofs.PlaitSep Go.Proofs.PlaitPure Go.Proofs.PlaitSat
structure EnOk (S:SM) (bad:Nat) (Z:Nat→Prop) (rk:Nat→Nat):Prop where
 un:UnOk S Z rk
 rk:∀ v,Z v→rk v<S.value.length
 lt:bad<S.cls.length
 z:∀ l∈S.cl bad,Z (l/2)
 len:(S.cl bad).length≤100000
structure MtOk (S:SM) (bad:Nat) (Z:Nat→Prop) (rk:Nat→Nat):Prop where
 en:S.ends.length=0→EnOk S bad Z rk
 lr:S.ends.length≠0→S.learned.length<S.conf→LrOk S bad Z rk∧(S.learn bad).2.1.length≤100000∧(S.learn bad).1.words≤1000000000 ∧
  (¬ (S.learn bad).1.most<(S.learn bad).1.words+(S.learn bad).2.1.length+2→KpOk (S.learn bad).1 (S.learn bad).2.1 (S.learn bad).2.2.1 (S.learn bad).2.2.2)
section
variable {B:Nat} {w0 w:World} {p:Nat} {M:MM} {F:HP}
theorem ended_any' {Z:Nat→Prop} {rk:Nat→Nat} (bad:Nat) (h:At B w0 w p M F) (hok:EnOk M.sv bad Z rk) :
  Calls Tryz.prog 71 #[.pointer (some ⟨p,0,none⟩),.int .i64 bad] w fun e w'=>e=.returned (.tuple #[])∧∃ M',At B w0 w' p M' F∧M'.sv=M.sv.ended bad:=by
 have hcll:M.sv.cls.length=M.cls.xs.length:=by show (M.cls.xs.map _).length=_;rw[List.length_map]
 exact ended_any bad h hok.un hok.rk (by rw[←hcll];exact hok.lt) hok.z hok.len
set_option maxRecDepth 100000 in
set_option maxHeartbeats 4000000 in
theorem met_any {Z:Nat→Prop} {rk:Nat→Nat} (bad:Nat) (h:At B w0 w p M F) (hok:MtOk M.sv bad Z rk) :
  Calls Tryz.prog 74 #[.pointer (some ⟨p,0,none⟩),.int .i64 bad] w fun e w'=>e=.returned (.tuple #[.bool (M.sv.metF bad).2.1,.int .i64 (M.sv.metF bad).2.2])∧∃ M',At B w0 w' p M' F∧M'.sv=(M.sv.metF bad).1:=by
 obtain⟨ne,hne⟩:∃ n,M.ends.xs.length=n:=⟨_,rfl⟩
 obtain⟨nl,hnl⟩:∃ n,M.learned.xs.length=n:=⟨_,rfl⟩
 obtain⟨cf,hcf⟩:∃ n,M.conf=n:=⟨_,rfl⟩
 have hat:=at_any h
 rw[hne] at hat
 have HAT:=Lib.hid hat
 have H:=Lib.hid h
 have HOK:=Lib.hid hok
 have hne2:M.sv.ends.length=ne:=hne
 have hnl2:M.sv.learned.length=nl:=by show (M.learned.xs.map _).length=nl;rw[List.length_map];exact hnl
 have hcf2:M.sv.conf=cf:=hcf
 have c18:=h.c_learned
 have c1:=h.c_conf
 rw[hnl] at c18
 rw[hcf] at c1
 have HNE:=Lib.hid hne2
 have HNL:=Lib.hid hnl2
 have HCF:=Lib.hid hcf2
 clear h hok hat hne hnl hcf hne2 hnl2 hcf2
 go_enter Tryz.func74,Tryz.ntmps74
 go_wp2_with fail
 refine HAT.out.mono ?_
 rintro e w1 ⟨rfl,rfl⟩
 by_cases h0:ne=0
 ·subst h0
  have e1:decide (((0:Nat):Int)=0)=true:=by simp
  have HE:=Lib.hid (ended_any' bad H.out (HOK.out.en HNE.out))
  have HM:=Lib.hid (show M.sv.metF bad=(M.sv.ended bad,false,0) by unfold SM.metF;rw[if_pos HNE.out])
  go_wp2_with fail
  refine HE.out.mono ?_
  rintro e w2 ⟨rfl,M2,h2,h3⟩
  have H2:=Lib.hid h2
  have HS2:=Lib.hid h3
  clear h2 h3 HE
  go_wp2
  go_ret2
  exact⟨by rw[HM.out];rfl,M2,H2.out,by rw[HM.out];exact HS2.out⟩
 ·have e1:decide ((ne:Int)=0)=false:=by simp;omega
  go_upto_region 4 with fail
  by_cases h1:cf≤nl
  ·have e2:decide ((cf:Int)≤(nl:Int))=true:=by simp;omega
   have HM:=Lib.hid (show M.sv.metF bad=(M.sv,false,131) by unfold SM.metF;rw[if_neg (by rw[HNE.out];exact h0),if_pos (by rw[HNL.out,HCF.out];exact h1)])
   go_quiet (fail)
   go_wp2
   go_ret2
   exact⟨by rw[HM.out];rfl,M,H.out.drewN _,by rw[HM.out]⟩
  ·have e2:decide ((cf:Int)≤(nl:Int))=false:=by simp;omega
   obtain⟨l1,l2,l3,l4⟩:=HOK.out.lr (by rw[HNE.out];exact h0) (by rw[HNL.out,HCF.out];omega)
   have hm:M.sv.metF bad=if (M.sv.learn bad).1.most<(M.sv.learn bad).1.words+(M.sv.learn bad).2.1.length+2 then ((M.sv.learn bad).1,false,111) else ((M.sv.learn bad).1.keep (M.sv.learn bad).2.1 (M.sv.learn bad).2.2.1 (M.sv.learn bad).2.2.2,true,0):=by
    unfold SM.metF
    rw[if_neg (by rw[HNE.out];exact h0),if_neg (by rw[HNL.out,HCF.out];exact h1)]
   go_quiet (fail)
   revert nq
   intro nq1
   have HLR:=Lib.hid (learn_any bad (H.out.drewN nq1) l1)
   obtain⟨R,hR⟩:∃ R,M.sv.learn bad=R:=⟨_,rfl⟩
   rw[hR] at HLR l2 l3 l4 hm
   have HM:=Lib.hid hm
   have HL2:=Lib.hid l2
   have HL3:=Lib.hid l3
   have HL4:=Lib.hid l4
   clear l1 l2 l3 l4 hm hR c18 c1 e2
   go_wp2_with fail
   refine HLR.out.mono ?_
   rintro e w2 ⟨a,b,c,u,st,li,fr,rfl,h2,h3,h4,h5⟩
   obtain⟨M2,hM2⟩:∃ M2,(M.u_heap a b c).u_un u st=M2:=⟨_,rfl⟩
   rw[hM2] at h2 h3
   obtain⟨la,hla⟩:∃ a,(li.a.map fun b=>(⟨b,0,none⟩:Addr))=a:=⟨_,rfl⟩
   obtain⟨fa,hfa⟩:∃ a,(fr.a.map fun b=>(⟨b,0,none⟩:Addr))=a:=⟨_,rfl⟩
   obtain⟨n,hn⟩:∃ n,li.xs.length=n:=⟨_,rfl⟩
   obtain⟨m,hm⟩:∃ m,fr.xs.length=m:=⟨_,rfl⟩
   have hlv:li.v=.slice la n li.c:=by unfold Fl.v;rw[hla,hn]
   have hfv:fr.v=.slice fa m fr.c:=by unfold Fl.v;rw[hfa,hm]
   rw[hlv,hfv]
   have h6:=h2.box #[.slice la n li.c,.slice fa m fr.c,.int .i64 (R.2.2.2:Nat)] 129
   obtain⟨r0,hr0⟩:∃ r,w2.heap.size=r:=⟨_,rfl⟩
   rw[hr0] at h6
   obtain⟨lev,hlev⟩:∃ l,R.2.2.2=l:=⟨_,rfl⟩
   rw[hlev] at h6 ⊢
   have HS2:=Lib.hid h3
   have HX:=Lib.hid h4
   have HY:=Lib.hid h5
   have HN:=Lib.hid hn
   have HLV:=Lib.hid hlv
   have HFV:=Lib.hid hfv
   have HLEV:=Lib.hid hlev
   clear h2 h3 h4 h5 hM2 hla hfa hn hm hlv hfv HLR hlev
   go_upto_region 7 with fail
   try rw[hr0]
   clear hr0
   revert h6
   generalize w2.alloc (Obj.cells #[.slice la n li.c,.slice fa m fr.c,.int .i64 (lev:Nat)] 129)=w3
   intro h6
   have k0:=(h6.box_cell 0).1
   have k1:=(h6.box_cell 1).1
   have k2:=(h6.box_cell 2).1
   simp only[List.getElem?_cons_succ,List.getElem?_cons_zero] at k0 k1 k2
   have hw2:M2.words=R.1.words:=congrArg SM.words HS2.out
   have hm2:M2.most=R.1.most:=congrArg SM.most HS2.out
   have hr:=SRoom_any n h6 (by have:=HL2.out;rw[←HX.out,HN.out] at this;omega) (by rw[hw2];exact HL3.out)
   have HRM:=Lib.hid hr
   have H6:=Lib.hid h6
   have HN2:=Lib.hid (show R.2.1.length=n by rw[←HX.out];exact HN.out)
   by_cases hroom:R.1.words+n+2≤R.1.most
   ·have hb:decide (M2.words+n+2≤M2.most)=true:=by rw[hw2,hm2];simpa using hroom
    rw[hb] at HRM
    have hm:=HM.out
    rw[if_neg (by rw[HN2.out];omega)] at hm
    have HM2:=Lib.hid hm
    clear hr h6 hw2 hm2 hb hm HM
    go_wp2_with fail
    refine HRM.out.mono ?_
    rintro e w4 ⟨rfl,hd⟩
    have h7:=H6.out.drawn hd
    have j0:=(h7.box_cell 0).1
    have j1:=(h7.box_cell 1).1
    have j2:=(h7.box_cell 2).1
    simp only[List.getElem?_cons_succ,List.getElem?_cons_zero] at j0 j1 j2
    have hk:=keep_any (M:=M2) li fr lev ((h7).frame (show _=star (li.hp 98 vL) (star (fr.hp 3 vI) (star (pt r0 129 [.slice la n li.c,.slice fa m fr.c,.int .i64 lev]) F)) by ac_rfl)) (by rw[HS2.out,HX.out,HY.out,←HLEV.out];exact HL4.out (by rw[HN2.out];omega))
    rw[HLV.out,HFV.out] at hk
    have HK:=Lib.hid hk
    clear h7 hk hd k0 k1 k2 HRM H6
    go_wp2_with fail
    refine HK.out.mono ?_
    rintro e w5 ⟨rfl,M5,h8,h9⟩
    have H8:=Lib.hid h8
    have HS8:=Lib.hid h9
    clear h8 h9 HK
    go_wp2
    go_ret2
    exact⟨by rw[HM2.out];rfl,M5,H8.out.dropF,by rw[HM2.out,HS8.out,HS2.out,HX.out,HY.out,HLEV.out]⟩
   ·have hb:decide (M2.words+n+2≤M2.most)=false:=by rw[hw2,hm2];simpa using hroom
    rw[hb] at HRM
    have hm:=HM.out
    rw[if_pos (by rw[HN2.out];omega)] at hm
    have HM2:=Lib.hid hm
    clear hr h6 hw2 hm2 hb hm HM
    go_wp2_with fail
    refine HRM.out.mono ?_
    rintro e w4 ⟨rfl,hd⟩
    have H7:=Lib.hid (((H6.out.drawn hd).frame (show _=star (star (pt r0 129 [.slice la n li.c,.slice fa m fr.c,.int .i64 lev]) (star (li.hp 98 vL) (fr.hp 3 vI))) F by ac_rfl)).dropF)
    clear hd HRM H6
    go_wp2
    go_ret2
    exact⟨by rw[HM2.out];rfl,M2,H7.out,by rw[HM2.out];exact HS2.out⟩
end
end Go.Proofs.YthbbmdnfkkffjaaGreat
namespace Go.Proofs.YthbbmdnfkkffjaaGreat
open Go.RowKit Go.Proofs.PlaitSep Go.Proofs.PlaitPure Go.Proofs.PlaitSat
structure BgOk (S:SM) (id:Nat):Prop where
 ng:S.given.length≤1000000
 lits:∀ x∈gl S.given id,x.natAbs≤65536
 len:(gl S.given id).length≤1000000
 lk:LkOk S
 lv:∀ x∈gl S.given id,packF x/2<S.value.length
 cn:S.cls.length≤1000000
structure FlOk (S:SM):Prop where
 ok:followOk (S.value.length+2) S
 run:SM.followGo (S.value.length+2) S=some S.follow
 num:S.follow.2=-1∨0≤S.follow.2
def started (S:SM):SM×Int:=if (S.begin_ S.fresh).2=-1 then (S.begin_ S.fresh).1.follow else S.begin_ S.fresh
def startOk:Nat→SM→Prop
 | 0,S=>S.given.length≤1000000
 | f+1,S=>BgOk S S.fresh∧((S.begin_ S.fresh).2=-1→FlOk (S.begin_ S.fresh).1) ∧
  ((started S).2=-1→startOk f { (started S).1 with fresh:=(started S).1.fresh+1 }∧(started S).1.given=S.given∧(started S).1.fresh=S.fresh) ∧
  ((started S).2≠-1→0≤(started S).2∧∃ Z rk,EnOk (started S).1 (started S).2.toNat Z rk)
theorem startGo_succ (f:Nat) (S:SM):SM.startGo (f+1) S=if (started S).2=-1 then SM.startGo f { (started S).1 with fresh:=(started S).1.fresh+1 } else ((started S).1.ended (started S).2.toNat,false):=rfl
section
variable {B:Nat} {w0 w:World} {p:Nat} {M:MM} {F:HP}
theorem sfollow_any' (h:At B w0 w p M F) (hok:FlOk M.sv) :
  Calls Tryz.prog 70 #[.pointer (some ⟨p,0,none⟩)] w fun e w'=>e=.returned (.int .i64 M.sv.follow.2)∧∃ M',At B w0 w' p M' F∧M'.sv=M.sv.follow.1:=sfollow_any _ h hok.run hok.ok
set_option maxRecDepth 100000 in
set_option maxHeartbeats 4000000 in
theorem start_any (h:At B w0 w p M F) (hok:startOk (M.sv.given.length-M.sv.fresh) M.sv) (hgl:M.sv.given.length≤1000000) (hfr:M.sv.fresh≤M.sv.given.length) :
  Calls Tryz.prog 72 #[.pointer (some ⟨p,0,none⟩)] w fun e w'=>e=.returned (.bool M.sv.start.2)∧∃ M',At B w0 w' p M' F∧M'.sv=M.sv.start.1:=by
 obtain⟨R,hR⟩:∃ R,M.sv.start=R:=⟨_,rfl⟩
 rw[hR]
 obtain⟨gn,hgn⟩:∃ n,M.sv.given.length=n:=⟨_,rfl⟩
 rw[hgn] at hgl hfr hok
 have H:=Lib.hid h
 have HOK:=Lib.hid hok
 have HFR:=Lib.hid hfr
 have HR:=Lib.hid (show SM.startGo (gn-M.sv.fresh) M.sv=R by rw[←hR,←hgn];rfl)
 have HGN:=Lib.hid hgn
 clear h hok hR hgn hfr
 go_enter Tryz.func72,Tryz.ntmps72
 go_wp2
 go_loopg [] (gn-M.sv.fresh) (fun g wr=>∃ N:MM,Hid (At B w0 wr p N F)∧Hid (SM.startGo g N.sv=R)∧Hid (startOk g N.sv)∧Hid (g=gn-N.sv.fresh∧N.sv.given.length=gn∧N.sv.fresh≤gn))
 case atStart=>exact⟨M,H,HR,HOK,⟨rfl,HGN.out,HFR.out⟩⟩
 case round =>
  obtain⟨N,H0,HG,HO,HE⟩:=hrel
  obtain⟨k,hk⟩:∃ k,N.fresh=k:=⟨_,rfl⟩
  have hg2:N.given.xs.length=gn:=by have h9:=HE.out.2.1;rw[show N.sv.given.length=N.given.xs.length by show (N.given.xs.map _).length=_;rw[List.length_map]] at h9;exact h9
  have c4:=H0.out.c_fresh
  have c3:=H0.out.c_given
  rw[hk] at c4
  rw[hg2] at c3
  have HK:=Lib.hid (show N.sv.fresh=k from hk)
  have hkg:=HE.out.2.2
  rw[HK.out] at hkg
  have HG2:=Lib.hid hg2
  clear hk hg2
  by_cases hlt:k<gn
  ·have e1:decide ((k:Int)<(gn:Int))=true:=by simp;omega
   obtain⟨g,rfl⟩:∃ g,gk=g+1:=⟨gn-k-1,by have h9:=HE.out.1;rw[HK.out] at h9;omega⟩
   obtain⟨o1,o2,o3,o4⟩:=HO.out
   rw[HK.out] at o1 o2
   have hgo:=HG.out
   rw[startGo_succ] at hgo
   have HO2:=Lib.hid o2
   have HO3:=Lib.hid o3
   have HO4:=Lib.hid o4
   have HGO:=Lib.hid hgo
   have hcl:N.cls.xs.length≤1000000:=by have h9:=o1.cn;rw[show N.sv.cls.length=N.cls.xs.length by show (N.cls.xs.map _).length=_;rw[List.length_map]] at h9;exact h9
   have HO1:=Lib.hid o1
   have HCL:=Lib.hid hcl
   clear o1 o2 o3 o4 hgo HO HG hcl
   go_upto_region 1 with fail
   go_quiet (fail)
   revert nq
   intro nq1
   have H1:=Lib.hid (H0.out.drewN nq1)
   have HB:=Lib.hid (sbegin_any k H1.out (by rw[HG2.out];exact hlt) (by rw[HG2.out];exact hgl) HO1.out.lits HO1.out.len HO1.out.lk HO1.out.lv HCL.out)
   have c4b:(wr.drewN nq1).cell? ⟨p,4,none⟩=some (.int .i64 k):=c4
   clear c4 c3 H0
   revert H1 HB c4b
   generalize wr.drewN nq1=w1
   intro H1 HB c4b
   obtain⟨b,hb⟩:∃ b,(N.sv.begin_ k).2=b:=⟨_,rfl⟩
   rw[hb] at HB
   have HBB:=Lib.hid hb
   clear hb
   go_wp2_with fail
   refine HB.out.mono ?_
   rintro e w2 ⟨rfl,N2,h2,h3⟩
   have H2:=Lib.hid h2
   have HS2:=Lib.hid h3
   clear h2 h3 HB c4b
   have key:∀ (N3:MM) (w3:World),At B w0 w3 p N3 F→N3.sv=(started N.sv).1→(started N.sv).2=-1→At B w0 (w3.setCell ⟨p,4,none⟩ (.int .i64 ((k+1:Nat):Int))) p (N3.u_fresh (k+1)) F∧w3.cell? ⟨p,4,none⟩=some (.int .i64 k)∧SM.startGo g (N3.u_fresh (k+1)).sv=R∧startOk g (N3.u_fresh (k+1)).sv∧(g=gn-(k+1)∧(N3.u_fresh (k+1)).sv.given.length=gn∧k+1≤gn):=by
    intro N3 w3 h3 hs hm
    obtain⟨q1,q2,q3⟩:=HO3.out hm
    have hf3:N3.fresh=k:=by
     have h9:N3.fresh=(started N.sv).1.fresh:=congrArg SM.fresh hs
     rw[h9,q3,HK.out]
    have hsv:MM.sv (N3.u_fresh (k+1))={ (started N.sv).1 with fresh:=(started N.sv).1.fresh+1 }:=by
     rw[←hs,show (MM.sv N3).fresh=k from hf3]
     rfl
    have hgo:=HGO.out
    rw[if_pos hm] at hgo
    refine⟨h3.put_fresh (k+1),by have c:=h3.c_fresh;rw[hf3] at c;exact c,by rw[hsv];exact hgo,by rw[hsv];exact q1,by have h9:=HE.out.1;rw[HK.out] at h9;omega,by rw[hsv];show (started N.sv).1.given.length=gn;rw[q2];exact HE.out.2.1,by omega⟩
   have HKEY:=Lib.hid key
   clear key
   by_cases hb1:b=-1
   ·subst hb1
    have e2:decide ((-1:Int)=-1)=true:=by simp
    have hst:started N.sv=(N.sv.begin_ k).1.follow:=by unfold started;rw[HK.out,if_pos HBB.out]
    have HST:=Lib.hid hst
    have HF:=Lib.hid (sfollow_any' H2.out (by rw[HS2.out];exact HO2.out HBB.out))
    obtain⟨b2,hb2⟩:∃ b2,(started N.sv).2=b2:=⟨_,rfl⟩
    rw[HS2.out,←hst,hb2] at HF
    have HB2:=Lib.hid hb2
    clear hst hb2
    go_wp2_with fail
    refine HF.out.mono ?_
    rintro e w3 ⟨rfl,N3,h3,h4⟩
    by_cases hb3:b2=-1
    ·subst hb3
     have e3:decide ((-1:Int)=-1)=true:=by simp
     obtain⟨z1,z2,z3,z4,z5⟩:=HKEY.out N3 w3 h3 h4 HB2.out
     have f4:=h3.fz 4
     have Z1:=Lib.hid z1
     have Z3:=Lib.hid z3
     have Z4:=Lib.hid z4
     have Z5:=Lib.hid z5
     clear z1 z3 z4 z5 h3 h4 HF
     go_wp2
     go_roundg g
     case measure=>omega
     case rel=>exact⟨N3.u_fresh (k+1),Z1.out,Z3.out,Z4.out,Z5.out⟩
    ·have e3:decide (b2=-1)=false:=by simpa using hb3
     obtain⟨n,hn⟩:∃ n:Nat,b2=n:=⟨b2.toNat,by have h9:=(HO4.out (by rw[HB2.out];exact hb3)).1;rw[HB2.out] at h9;omega⟩
     subst hn
     obtain⟨_,Zz,rkk,hen⟩:=HO4.out (by rw[HB2.out];exact hb3)
     rw[HB2.out,Int.toNat_natCast] at hen
     have HE2:=Lib.hid (ended_any' n h3 (by rw[h4];exact hen))
     have hgo:=HGO.out
     rw[if_neg (by rw[HB2.out];exact hb3),HB2.out,Int.toNat_natCast] at hgo
     have HGO2:=Lib.hid hgo
     have HS9:=Lib.hid h4
     clear hen hgo
     go_wp2_with fail
     refine HE2.out.mono ?_
     rintro e w9 ⟨rfl,M9,h9,h10⟩
     have H9:=Lib.hid h9
     have H10:=Lib.hid h10
     clear h9 h10
     go_wp2
     go_ret
     exact⟨by rw[←HGO2.out];rfl,M9,H9.out,by rw[←HGO2.out,H10.out,HS9.out]⟩
   ·have e2:decide (b=-1)=false:=by simpa using hb1
    have hst:started N.sv=N.sv.begin_ k:=by unfold started;rw[HK.out,if_neg (by rw[HBB.out];exact hb1)]
    have HB2:=Lib.hid (show (started N.sv).2=b by rw[hst];exact HBB.out)
    have h4:N2.sv=(started N.sv).1:=by rw[hst];exact HS2.out
    obtain⟨n,hn⟩:∃ n:Nat,b=n:=⟨b.toNat,by have h9:=(HO4.out (by rw[HB2.out];exact hb1)).1;rw[HB2.out] at h9;omega⟩
    subst hn
    obtain⟨_,Zz,rkk,hen⟩:=HO4.out (by rw[HB2.out];exact hb1)
    rw[HB2.out,Int.toNat_natCast] at hen
    have HE2:=Lib.hid (ended_any' n H2.out (by rw[h4];exact hen))
    have hgo:=HGO.out
    rw[if_neg (by rw[HB2.out];exact hb1),HB2.out,Int.toNat_natCast] at hgo
    have HGO2:=Lib.hid hgo
    have HS9:=Lib.hid h4
    clear hen hgo
    go_wp2_with fail
    refine HE2.out.mono ?_
    rintro e w9 ⟨rfl,M9,h9,h10⟩
    have H9:=Lib.hid h9
    have H10:=Lib.hid h10
    clear h9 h10
    go_wp2
    go_ret
    exact⟨by rw[←HGO2.out];rfl,M9,H9.out,by rw[←HGO2.out,H10.out,HS9.out]⟩
  ·have e1:decide ((k:Int)<(gn:Int))=false:=by simp;omega
   obtain rfl:gk=0:=by have h9:=HE.out.1;rw[HK.out] at h9;omega
   have HGO:=Lib.hid (show R=(N.sv,true) from HG.out.symm)
   go_upto_region 1 with fail
   go_quiet (fail)
   go_wp2
   go_ret
   exact⟨by rw[HGO.out];rfl,N,H0.out.drewN _,by rw[HGO.out]⟩
end
end Go.Proofs.YthbbmdnfkkffjaaGreat
namespace Go.Proofs.YthbbmdnfkkffjaaGreat
open Go.Proofs.PlaitPure Go.Proofs.PlaitSat
theorem levAt_full {S:SM} {i:Nat} (h:∀ e∈S.ends,e≤i):levAt S i=S.ends.length:=by
 unfold levAt
 rw[List.countP_eq_length]
 intro a ha;simpa using h a ha
theorem TrI.lev_le {S:SM} (h:TrI S) {l:Nat} (hl:S.isL l≠0):gn S.level (l/2)≤S.ends.length:=by
 have hv:gi S.value (l/2)≠0:=fun e=>hl (isL_zero.2 e)
 have hlt:l/2<S.value.length:=by
  apply Classical.byContradiction;intro k;exact hv (pgi_out (by omega))
 obtain⟨i,hi,e⟩:=h.all _ hlt hv
 rw[←e,h.lev i hi]
 exact YthbbmdnfkkffjaaGreat.lev_le S i
theorem FoI.up {S:SM} (h:FoI S) (hn:S.next<S.trail.length):S.isL (negL (gn S.trail S.next))=-1∧negL (gn S.trail S.next)<S.watches.length∧negL (gn S.trail S.next)<1000000∧gn S.level (negL (gn S.trail S.next)/2)=S.ends.length:=by
 have h1:=h.tr.lt _ hn
 have h2:=h.hp.hi.hb.small
 have h3:=h.tr.sz.watches
 have h4:=negL_half (gn S.trail S.next)
 refine⟨by rw[isL_neg,h.tr.is _ hn],by omega,by omega,?_⟩
 rw[negL_half,h.tr.lev _ hn,levAt_full h.en]
theorem inner_eq {S:SM} {l:Nat} (h:FoI S) (hlw:l<S.watches.length) (hf:S.isL l=-1) :
  S.inner l=innerE l (gN S.watches l).length S 0∧(S.cls.length≤1000000→innerOk (gN S.watches l).length S l 0 0):=by
 have hw:whole S l 0 0=gN S.watches l:=by unfold whole;simp
 have:=innerGo_eq (l:=l) (gN S.watches l).length S 0 0 (by omega) (Nat.le_refl _) hlw hf (by rw[hw,rowW_self hlw];exact h)
 rw[hw,rowW_self hlw] at this
 exact⟨this.1,fun hn=>this.2 hn (Nat.le_trans (h.wa.len l) hn)⟩
def nx (S:SM) (n:Nat):SM:={ S with next:=n }
theorem Fwd.nx {S T:SM} (h:Fwd S T) (n:Nat):Fwd (nx S n) (nx T n):=by
 obtain⟨hs,a,b,c,d,e,f⟩:=h
 exact⟨by obtain⟨cs,ws,va,le,re,t,rfl⟩:=hs;exact⟨cs,ws,va,le,re,t,rfl⟩,a,b,c,d,e,f⟩
theorem FoI.next {S:SM} (h:FoI S) (hn:S.next<S.trail.length) (hok:∀ r∈gN S.watches (negL (gn S.trail S.next)),OkW S (negL (gn S.trail S.next)) r):FoI (nx S (S.next+1)):=by
 obtain⟨hf,hlw,_,hlev⟩:=h.up hn
 refine⟨h.tr.congr ⟨h.tr.sz.level,h.tr.sz.reason,h.tr.sz.phase,h.tr.sz.occurs,h.tr.sz.units,h.tr.sz.watches⟩ rfl rfl rfl rfl rfl (Nat.le_refl _) (fun _ _ _=>Iff.rfl),⟨h.cl.nd,h.cl.two⟩,⟨h.wa.nd,h.wa.iff⟩,⟨⟨⟨h.hp.hi.hb.small,h.hp.hi.hb.vars,h.hp.hi.hb.place,h.hp.hi.hb.met,h.hp.hi.hb.hl⟩,h.hp.hi.pl,h.hp.hi.bk⟩,h.hp.nz,h.hp.all⟩,fun r hr h2=>?_,hn,fun e he=>Nat.le_succ_of_le (h.en e he)⟩
 obtain⟨a,b⟩:=h.pi r hr h2
 change r<S.cls.length at hr
 change 2≤(S.cl r).length at h2
 have key:∀ x y,(x=gn (S.cl r) 0∧y=gn (S.cl r) 1∨x=gn (S.cl r) 1∧y=gn (S.cl r) 0)→PI1 S S.next x y→PI1 (YthbbmdnfkkffjaaGreat.nx S (S.next+1)) (S.next+1) x y:=fun x y hxy hp hk=>by
  obtain⟨i,h1,h3,h4⟩:=hk
  change i<S.trail.length at h3
  change gn S.trail i=negL x at h4
  by_cases e:i=S.next
  ·subst e
   have hx:x=negL (gn S.trail S.next):=by rw[h4,negL_negL]
   have hmem:r∈gN S.watches (negL (gn S.trail S.next)):=(h.wa.iff _ r).2 ⟨hr,h2,by rcases hxy with ⟨p,_⟩ | ⟨p,_⟩ <;> rw[←hx,p] <;> simp⟩
   have ho:=hok r hmem
   have hy:S.isL y=1:=by
    rcases hxy with ⟨p,q⟩ | ⟨p,q⟩
    ·rw[q];exact ho.1 (by rw[←p];exact hx)
    ·rw[q];exact ho.2 (by rw[←p];exact hx)
   refine⟨hy,?_⟩
   show gn S.level (y/2)≤gn S.level (x/2)
   rw[hx,hlev]
   exact h.tr.lev_le (by omega)
  ·exact hp ⟨i,by omega,h3,h4⟩
 exact⟨key _ _ (.inl ⟨rfl,rfl⟩) a,key _ _ (.inr ⟨rfl,rfl⟩) b⟩
structure Fold (S:SM) (R:SM×Int):Prop where
 fo:FoI R.1
 fwd:Fwd (nx S R.1.next) R.1
 out:(R.2=-1∧R.1.next=R.1.trail.length)∨∃ r:Nat,R.2=r∧AllNo R.1 r∧∃ l∈R.1.cl r,gn R.1.level (l/2)=R.1.ends.length
theorem follow_run:∀ (f:Nat) (S:SM),S.value.length+1≤f+S.next→FoI S→∃ R,SM.followGo f S=some R∧Fold S R∧(S.cls.length≤1000000→followOk f S)
 | 0,S,hfu,h=>by
  have:=h.ne;have:=h.tr.len;omega
 | f+1,S,hfu,h=>by
  rw[SM.followGo]
  have hsm:=h.hp.hi.hb.small
  have htl:=h.tr.len
  have hne:=h.ne
  by_cases hn:S.next<S.trail.length
  ·rw[if_pos hn]
   obtain⟨hf,hlw,hl6,hlev⟩:=h.up hn
   obtain⟨l,hl⟩:∃ l,negL (gn S.trail S.next)=l:=⟨_,rfl⟩
   rw[hl] at hf hlw hlev hl6 ⊢
   obtain⟨he,hio⟩:=inner_eq h hlw hf
   obtain⟨a,b,c⟩:=innerE_run (gN S.watches l).length S 0 (by omega) h hf hlw (fun j hj=>by omega)
   rw[←he] at a b c
   have hgn:gn (S.inner l).1.trail (S.inner l).1.next=gn S.trail S.next:=by rw[b.next];exact b.gn hn
   have hlt:(S.inner l).1.next<(S.inner l).1.trail.length:=by rw[b.next];have:=b.le;omega
   have hstart:S.cls.length≤1000000→S.trail.length≤900000∧S.next≤900000∧(gN S.watches l).length≤1000000∧innerOk (gN S.watches l).length S l 0 0:=fun hc=>⟨by omega,by omega,by have:=h.wa.len l;omega,hio hc⟩
   rcases c with ⟨e,hok⟩ | ⟨r,e,hno,hmem⟩
   ·rw[if_pos e]
    have hF:=a.next hlt (by rw[hgn,hl];exact hok)
    rw[show (S.inner l).1.next+1=S.next+1 by rw[b.next]] at hF
    obtain⟨R,h1,h2,h3⟩:=follow_run f (nx (S.inner l).1 (S.next+1)) (by show (S.inner l).1.value.length+1≤f+(S.next+1);rw[b.vlen];omega) hF
    refine⟨R,h1,⟨h2.fo,?_,h2.out⟩,fun hc=>?_⟩
    ·exact (b.nx R.1.next).trans h2.fwd
    ·obtain⟨p1,p2,p3,p4⟩:=hstart hc
     rw[followOk]
     refine⟨p1,p2,fun _=>⟨by rw[hl];exact hl6,by rw[hl];exact hlw,by rw[hl];exact p3,by rw[hl];exact p4,fun _=>by rw[hl];exact h3 (by show (S.inner l).1.cls.length≤_;rw[b.clen];exact hc)⟩⟩
   ·rw[if_neg (by rw[e];omega)]
    refine⟨_,rfl,⟨a,?_,.inr ⟨r,e,hno,l,hmem,?_⟩⟩,fun hc=>?_⟩
    ·have:=b
     rw[b.next]
     exact b
    ·rw[b.lev (by omega),hlev,b.ends]
    ·obtain⟨p1,p2,p3,p4⟩:=hstart hc
     rw[followOk]
     refine⟨p1,p2,fun _=>⟨by rw[hl];exact hl6,by rw[hl];exact hlw,by rw[hl];exact p3,by rw[hl];exact p4,fun k=>?_⟩⟩
     rw[hl,e] at k;omega
  ·rw[if_neg hn]
   refine⟨_,rfl,⟨h,Fwd.refl S,Or.inl ⟨rfl,show S.next=S.trail.length by omega⟩⟩,fun hc=>?_⟩
   rw[followOk]
   exact⟨by omega,by omega,fun k=>absurd k hn⟩
theorem follow_fold {S:SM} (h:FoI S):Fold S S.follow∧(S.cls.length≤1000000→FlOk S):=by
 obtain⟨R,h1,h2,h3⟩:=follow_run (S.value.length+2) S (by omega) h
 have e:S.follow=R:=by unfold SM.follow;rw[h1];rfl
 rw[e]
 refine⟨h2,fun hc=>⟨h3 hc,by rw[e];exact h1,?_⟩⟩
 rw[e]
 rcases h2.out with ⟨a,_⟩ | ⟨r,a,_⟩
 ·exact .inl a
 ·right;omega
end Go.Proofs.YthbbmdnfkkffjaaGreat

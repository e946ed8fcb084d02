/-
  Parts of the proof, joined by program: Ned1, Ned2, Ned, Help2, Help3.
-/
import Derived.Test.YthbbmdnfkkffjaaGreatZ40
import Derived.Test.YthbbmdnfkkffjaaGreatZ24
import Derived.StillTailTactics
namespace Go.Proofs.PlaitSat
open Go.Proofs.PlaitPure
def nMark (m:List Bool) (l:List Int):List Bool:=l.foldl (fun m x=>if x< -1 then m.set (-2-x).toNat true else m) m
def nGo (steps:List (List Int)):Nat→List Bool→List Bool
 | 0,m=>m
 | i+1,m=>nGo steps i (if gB m i then nMark m (gl steps i) else m)
def nLay (now:List Int) (l:List Int):List Int:=l.map fun x=>if x< -1 then gi now (-2-x).toNat else x
def nOut (steps:List (List Int)) (need:List Bool) (n:Nat):Nat→Nat→List Int→List (List Int)→List Int×List (List Int)
 | 0,_,now,out=>(now,out)
 | f+1,i,now,out =>
  if gB need i then nOut steps need n f (i+1) (now.set i ((n:Int)+out.length)) (out++[nLay (now.set i ((n:Int)+out.length)) (gl steps i)])
  else nOut steps need n f (i+1) now out
def neededF (steps:List (List Int)) (last:List Int) (n:Nat):List (List Int) :=
 let m:=nGo steps steps.length (nMark (List.replicate steps.length false) last)
 let R:=nOut steps m n steps.length 0 (List.replicate steps.length 0) []
 R.2++[nLay R.1 last]
theorem nMark_len:∀ (l:List Int) (m:List Bool),(nMark m l).length=m.length
 | [],_=>rfl
 | x :: r,m=>by
  show (nMark (if x< -1 then m.set (-2-x).toNat true else m) r).length=_
  rw[nMark_len r]
  split <;> simp
def NamesIn (m:Nat) (l:List Int):Prop:=∀ x∈l,x< -1→(-2-x).toNat<m
end Go.Proofs.PlaitSat
namespace Go.Proofs.YthbbmdnfkkffjaaGreat
open Go.RowKit Go.Proofs.PlaitSep Go.Proofs.PlaitSat
open Go.Proofs.PlaitPure hiding SM
theorem Tryz.sizeBoolN:(Tryz.prog.info? 4).map (·.size)=some 1:=by kernel_rfl
section
variable {B:Nat} {w0 w:World} {F:HP}
set_option maxRecDepth 100000 in
set_option maxHeartbeats 2000000 in
theorem mark_any (A:Option Addr) (n c bn nb m:Nat) (l:List Int) (N:List Bool) (h:St B w0 w (star (pt bn 84 [.slice (some ⟨nb,0,none⟩) m m]) (star (sl (some nb) m m 4 1 (N.map vB)) F))) (hs:Stays B w0 F A n l) (hN:N.length=m) (hm:m≤10000000) (hl:NamesIn m l) :
  Calls Tryz.prog 96 #[.slice A n c,.pointer (some ⟨bn,0,none⟩)] w fun e w'=>e=.returned (.tuple #[])∧St B w0 w' (star (pt bn 84 [.slice (some ⟨nb,0,none⟩) m m]) (star (sl (some nb) m m 4 1 ((nMark N l).map vB)) F)):=by
 have hrd:=hs w (star (pt bn 84 [.slice (some ⟨nb,0,none⟩) m m]) (sl (some nb) m m 4 1 (N.map vB))) (h.conseq (by ac_rfl))
 have hlen:=hrd.len
 have hsm:=hrd.small
 have H:=Lib.hid h
 have HS:=Lib.hid hs
 have HNL:=Lib.hid hN
 have HL:=Lib.hid hl
 have HLEN:=Lib.hid hlen
 clear h hs hN hl hrd hlen
 go_enter Tryz.func96,Tryz.ntmps96
 go_wp2
 go_loopg [7] n (fun g s7 wr=>∃ (k:Nat) (N2:List Bool),s7=.int .i64 k∧k≤n∧Hid (g=n-k)∧Hid (N2.length=m)∧Hid (St B w0 wr (star (pt bn 84 [.slice (some ⟨nb,0,none⟩) m m]) (star (sl (some nb) m m 4 1 (N2.map vB)) F)))∧Hid (nMark N2 (l.drop k)=nMark N l))
 case atStart=>exact⟨0,N,rfl,Nat.zero_le _,rfl,HNL.out,H.out,rfl⟩
 case round =>
  obtain⟨k,N2,rfl,hkn,hg,HN2,H1,HE⟩:=hrel
  by_cases hkl:k<n
  ·have e1:decide ((k:Int)<(n:Int))=true:=by simp;omega
   have hrd:=HS.out wr (star (pt bn 84 [.slice (some ⟨nb,0,none⟩) m m]) (sl (some nb) m m 4 1 (N2.map vB))) (H1.out.conseq (by ac_rfl))
   obtain⟨b,o,rfl,hc⟩:=hrd.cells (by omega)
   have hkx:k<l.length:=by rw[HLEN.out];exact hkl
   obtain⟨x,hx⟩:∃ x,gi l k=x:=⟨_,rfl⟩
   have k3:=hc k hkl
   rw[hx] at k3
   have hdr:l.drop k=x :: l.drop (k+1):=by rw[←hx,gi_eq _ _ hkx];exact List.drop_eq_getElem_cons hkx
   have hE:=HE.out
   rw[hdr] at hE
   have hE2:nMark (if x< -1 then N2.set (-2-x).toNat true else N2) (l.drop (k+1))=nMark N l:=hE
   have hxm:x∈l:=by rw[←hx,gi_eq _ _ hkx];exact List.getElem_mem hkx
   have p0:(0:Int)≤(k:Int):=by omega
   have p1:(k:Int)<(n:Int):=by omega
   by_cases hx1:x< -1
   ·have e2:decide (x< -1)=true:=by simpa using hx1
    rw[if_pos hx1] at hE2
    have hyl:=HL.out x hxm hx1
    obtain⟨y,hy⟩:∃ y,(-2-x).toNat=y:=⟨_,rfl⟩
    rw[hy] at hE2 hyl
    have hyx:-2-x=(y:Int):=by omega
    have hE3:=Lib.hid hE2
    have c1:=H1.out.pt_cell 0
    simp only[List.getElem?_cons_zero] at c1
    have y0:(0:Int)≤(y:Int):=by omega
    have y1:(y:Int)<(m:Int):=by omega
    have H2:=Lib.hid (H1.out.conseq (show _=star (sl (some nb) m m 4 1 (N2.map vB)) (star (pt bn 84 [.slice (some ⟨nb,0,none⟩) m m]) F) by ac_rfl))
    have f2:=H2.out.sl_free y
    have hyi:y<(N2.map vB).length:=by rw[List.length_map,HN2.out];exact hyl
    clear hc hx hdr hE hE2 hrd HE hxm hkx hy
    go_wp2_with (refine wpList_store_sl rfl 4 _ _ rfl Tryz.sizeBoolN H2.out y (.bool true) rfl rfl rfl hyi ?_;intro w3 h3;have H3:=Lib.hid h3;clear h3)
    go_roundg (n-(k+1))
    case measure=>have:=hg.out;omega
    case rel=>exact⟨k+1,N2.set y true,by go_num,by omega,rfl,Lib.hid (by rw[List.length_set];exact HN2.out),Lib.hid (H3.out.conseq (by rw[List.map_set];unfold vB;ac_rfl)),hE3⟩
   ·have e2:decide (x< -1)=false:=by simpa using hx1
    rw[if_neg hx1] at hE2
    have hE3:=Lib.hid hE2
    clear hc hx hdr hE hE2 hrd HE hxm hkx
    go_wp2
    go_roundg (n-(k+1))
    case measure=>have:=hg.out;omega
    case rel=>exact⟨k+1,N2,by go_num,by omega,rfl,HN2,H1,hE3⟩
  ·obtain rfl:k=n:=by omega
   have e1:decide ((k:Int)<(k:Int))=false:=by simp
   have hE:=HE.out
   rw[List.drop_of_length_le (by rw[HLEN.out];exact Nat.le_refl _)] at hE
   have hE2:N2=nMark N l:=hE
   have HE2:=Lib.hid hE2
   clear hE hE2
   go_wp2
   go_end0
   exact⟨rfl,by rw[←HE2.out];exact H1.out⟩
end
end Go.Proofs.YthbbmdnfkkffjaaGreat
namespace Go.Proofs.YthbbmdnfkkffjaaGreat
open Go.RowKit Go.Proofs.PlaitSep Go.Proofs.PlaitSat
open Go.Proofs.PlaitPure hiding SM
theorem Tryz.sizeIntN:(Tryz.prog.info? 3).map (·.size)=some 1:=by kernel_rfl
theorem Tryz.sizeBoolsN:(Tryz.prog.info? 84).map (·.size)=some 1:=by kernel_rfl
theorem Tryz.sizeIntsN:(Tryz.prog.info? 27).map (·.size)=some 1:=by kernel_rfl
theorem Tryz.sizeStepsN:(Tryz.prog.info? 73).map (·.size)=some 1:=by kernel_rfl
def layHP (oa:Option Nat) (oc ol:Nat) (W:Rws) (bu bo nb m:Nat) (now:List Int) (F:HP):HP :=
 star (rwsHP 106 oa oc W) (star (pt bu 73 [.slice (oa.map fun b=>⟨b,0,none⟩) ol oc]) (star (pt bo 27 [.slice (some ⟨nb,0,none⟩) m m]) (star (sl (some nb) m m 3 1 (ints now)) F)))
theorem igN {xs:List Int} {i:Nat} (h:i<xs.length):(ints xs)[i]?=some (.int .i64 (gi xs i)):=by
 unfold ints;rw[List.getElem?_map,List.getElem?_eq_getElem h,gi_eq _ _ h];rfl
theorem isN (xs:List Int) (i:Nat) (v:Int):ints (xs.set i v)=(ints xs).set i (.int .i64 v):=by unfold ints;rw[List.map_set]
theorem ints_len (xs:List Int):(ints xs).length=xs.length:=by unfold ints;simp
theorem nLay_take {now l:List Int} {k:Nat} (h:k<l.length):nLay now (l.take k)++l.drop k=(nLay now (l.take k)++(gi l k) :: l.drop (k+1)):=by
 rw[gi_eq _ _ h,←List.drop_eq_getElem_cons h]
theorem nLay_next {now l:List Int} {k:Nat} (h:k<l.length):nLay now (l.take (k+1))=nLay now (l.take k)++[if gi l k< -1 then gi now (-2-gi l k).toNat else gi l k]:=by
 unfold nLay
 rw[List.take_succ_eq_append_getElem h,List.map_append,gi_eq _ _ h]
 rfl
theorem nLay_len (now l:List Int):(nLay now l).length=l.length:=by unfold nLay;simp
theorem set_mid {xs ys:List Int} {k:Nat} {x v:Int} (h:xs.length=k):(xs++x :: ys).set k v=xs++v :: ys:=by
 subst h;rw[List.set_append_right _ _ (Nat.le_refl _)];simp
theorem gi_mid {xs ys:List Int} {k:Nat} {x:Int} (h:xs.length=k):gi (xs++x :: ys) k=x:=by
 subst h;unfold gi;rw[List.getD_eq_getElem?_getD,List.getElem?_append_right (Nat.le_refl _)];simp
section
variable {B:Nat} {w0 w:World} {F:HP}
set_option maxRecDepth 100000 in
set_option maxHeartbeats 4000000 in
theorem lay_any' (A:Option Addr) (n c bu bo nb m ol:Nat) (l now:List Int) (oa:Option Nat) (oc:Nat) (W:Rws) (h:St B w0 w (layHP oa oc ol W bu bo nb m now F)) (hs:Stays B w0 F A n l) (hN:now.length=m) (hm:m≤10000000) (hn:n≤1000000) (hW:W.length=ol) (hol:ol≤10000000) (hl:NamesIn m l) :
  Calls Tryz.prog 97 #[.slice A n c,.pointer (some ⟨bo,0,none⟩),.pointer (some ⟨bu,0,none⟩)] w fun e w'=>e=.returned (.tuple #[])∧∃ (oa':Option Nat) (oc':Nat) (ka:Option Nat) (kc:Nat),St B w0 w' (layHP oa' oc' (ol+1) (W++[(ka,kc,nLay now l)]) bu bo nb m now F):=by
 have hrd:=hs w (star (rwsHP 106 oa oc W) (star (pt bu 73 [.slice (oa.map fun b=>⟨b,0,none⟩) ol oc]) (star (pt bo 27 [.slice (some ⟨nb,0,none⟩) m m]) (sl (some nb) m m 3 1 (ints now))))) (h.conseq (by unfold layHP;ac_rfl))
 have hlen:=hrd.len
 have hcl:=clone_any A n c l w hrd hn
 rw[hlen] at hcl
 have H:=Lib.hid h
 have HCL:=Lib.hid hcl
 have HNL:=Lib.hid hN
 have HL:=Lib.hid hl
 have HLEN:=Lib.hid hlen
 have HWL:=Lib.hid hW
 clear h hs hN hl hrd hlen hcl hW
 go_enter Tryz.func97,Tryz.ntmps97
 go_wp2_with fail
 refine HCL.out.mono ?_
 rintro e w1 ⟨fa,fc,rfl,k1⟩
 have h2:St B w0 w1 (star (sl fa n fc 3 1 (ints l)) (layHP oa oc ol W bu bo nb m now F)):=(H.out.nest k1).conseq (by unfold sli;rw[HLEN.out,star_comm])
 have H2:=Lib.hid h2
 clear k1 h2 HCL
 unfold slv
 obtain⟨FA,hFA⟩:∃ A,(fa.map fun b=>(⟨b,0,none⟩:Addr))=A:=⟨_,rfl⟩
 rw[hFA]
 have HFA:=Lib.hid hFA
 clear hFA
 go_wp2
 go_loopg [11] n (fun g s11 wr=>∃ (k:Nat),s11=.int .i64 k∧k≤n∧Hid (g=n-k)∧Hid (St B w0 wr (star (sl fa n fc 3 1 (ints (nLay now (l.take k)++l.drop k))) (layHP oa oc ol W bu bo nb m now F))))
 case atStart=>exact⟨0,rfl,Nat.zero_le _,rfl,H2.out⟩
 case round =>
  clear H2
  obtain⟨k,rfl,hkn,hg,H1⟩:=hrel
  by_cases hkl:k<n
  ·have e1:decide ((k:Int)<(n:Int))=true:=by simp;omega
   have hkx:k<l.length:=by rw[HLEN.out];exact hkl
   obtain⟨x,hx⟩:∃ x,gi l k=x:=⟨_,rfl⟩
   have hsp:=nLay_take (now:=now) hkx
   have hnx:=nLay_next (now:=now) hkx
   rw[hx] at hsp hnx
   have htl:(nLay now (l.take k)).length=k:=by rw[nLay_len,List.length_take];omega
   have h1:=H1.out
   rw[hsp] at h1
   obtain⟨fb,hfb⟩:∃ b,fa=some b:=by
    cases fa with
    | none=>have:=(h1.sat.sl_facts.2.2.2.1 rfl).1;omega
    | some b=>exact⟨b,rfl⟩
   subst hfb
   obtain rfl:FA=some ⟨fb,0,none⟩:=HFA.out.symm
   have hil:k<(ints (nLay now (l.take k)++x :: l.drop (k+1))).length:=by rw[ints_len,List.length_append,htl];simp
   have d1:wr.cell? ⟨fb,k,none⟩=some (.int .i64 x):=by
    rw[h1.sl_cell k hil,igN (by rw[ints_len] at hil;exact hil),gi_mid htl]
   have hxm:x∈l:=by rw[←hx,gi_eq _ _ hkx];exact List.getElem_mem hkx
   have p0:(0:Int)≤(k:Int):=by omega
   have p1:(k:Int)<(n:Int):=by omega
   by_cases hx1:x< -1
   ·have e2:decide (x< -1)=true:=by simpa using hx1
    rw[if_pos hx1] at hnx
    have hyl:=HL.out x hxm hx1
    obtain⟨y,hy⟩:∃ y,(-2-x).toNat=y:=⟨_,rfl⟩
    rw[hy] at hnx hyl
    have hyx:-2-x=(y:Int):=by omega
    have y0:(0:Int)≤(y:Int):=by omega
    have y1:(y:Int)<(m:Int):=by omega
    obtain⟨z,hz⟩:∃ z,gi now y=z:=⟨_,rfl⟩
    rw[hz] at hnx
    have h4:St B w0 wr (star (pt bo 27 [.slice (some ⟨nb,0,none⟩) m m]) (star (sl (some nb) m m 3 1 (ints now)) (star (sl (some fb) n fc 3 1 (ints (nLay now (l.take k)++x :: l.drop (k+1)))) (star (rwsHP 106 oa oc W) (star (pt bu 73 [.slice (oa.map fun b=>⟨b,0,none⟩) ol oc]) F))))):=h1.conseq (by unfold layHP;ac_rfl)
    have c1:=h4.pt_cell 0
    simp only[List.getElem?_cons_zero] at c1
    have h5:=h4.conseq (show _=star (sl (some nb) m m 3 1 (ints now)) (star (pt bo 27 [.slice (some ⟨nb,0,none⟩) m m]) (star (sl (some fb) n fc 3 1 (ints (nLay now (l.take k)++x :: l.drop (k+1)))) (star (rwsHP 106 oa oc W) (star (pt bu 73 [.slice (oa.map fun b=>⟨b,0,none⟩) ol oc]) F)))) by ac_rfl)
    have c2:wr.cell? ⟨nb,y,none⟩=some (.int .i64 z):=by
     rw[h5.sl_cell y (by rw[ints_len,HNL.out];exact hyl),igN (by rw[HNL.out];exact hyl),hz]
    have H2:=Lib.hid h1
    have hfin:(ints (nLay now (l.take k)++x :: l.drop (k+1))).set k (.int .i64 z)=ints (nLay now (l.take (k+1))++l.drop (k+1)):=by
     rw[←isN,set_mid htl,hnx,List.append_assoc];rfl
    have HFIN:=Lib.hid hfin
    clear hsp hnx htl h1 hx hxm hy hz h4 h5 hfin hkx
    go_wp2_with (refine wpList_store_sl rfl 3 _ _ rfl Tryz.sizeIntN H2.out k (.int .i64 z) rfl rfl rfl hil ?_;intro w3 h3;have H3:=Lib.hid h3;clear h3)
    go_roundg (n-(k+1))
    case measure=>have:=hg.out;omega
    case rel=>exact⟨k+1,by go_num,by omega,rfl,Lib.hid (by rw[←HFIN.out];exact H3.out)⟩
   ·have e2:decide (x< -1)=false:=by simpa using hx1
    rw[if_neg hx1] at hnx
    have hfin:St B w0 wr (star (sl (some fb) n fc 3 1 (ints (nLay now (l.take (k+1))++l.drop (k+1)))) (layHP oa oc ol W bu bo nb m now F)):=by
     rw[hnx,List.append_assoc];exact h1
    have HFIN:=Lib.hid hfin
    clear hsp hnx htl h1 hx hxm hfin hkx
    go_wp2
    go_roundg (n-(k+1))
    case measure=>have:=hg.out;omega
    case rel=>exact⟨k+1,by go_num,by omega,rfl,HFIN⟩
  ·obtain rfl:k=n:=by omega
   have e1:decide ((k:Int)<(k:Int))=false:=by simp
   have h1:=H1.out
   rw[List.take_of_length_le (by rw[HLEN.out];exact Nat.le_refl _),List.drop_of_length_le (by rw[HLEN.out];exact Nat.le_refl _),List.append_nil] at h1
   have hnl:(nLay now l).length=k:=by rw[nLay_len,HLEN.out]
   have h4:=rws_focus (h1.conseq (show _=star (rwsHP 106 oa oc W) (star (pt bu 73 [.slice (oa.map fun b=>⟨b,0,none⟩) ol oc]) (star (sl fa k fc 3 1 (ints (nLay now l))) (star (pt bo 27 [.slice (some ⟨nb,0,none⟩) m m]) (star (sl (some nb) m m 3 1 (ints now)) F)))) by unfold layHP;ac_rfl)) HWL.out
   have c1:wr.cell? ⟨bu,0,none⟩=some (.slice (oa.map fun b=>⟨b,0,none⟩) ol oc):=by
    have:=(h4.conseq (show _=star (pt bu 73 [.slice (oa.map fun b=>⟨b,0,none⟩) ol oc]) (star (sl oa ol oc 106 1 (rwV W)) (star (stars (rwH W)) (star (sl fa k fc 3 1 (ints (nLay now l))) (star (pt bo 27 [.slice (some ⟨nb,0,none⟩) m m]) (star (sl (some nb) m m 3 1 (ints now)) F))))) by ac_rfl)).pt_cell 0
    simpa using this
   have H4:=Lib.hid h4
   have HNK:=Lib.hid hnl
   clear h1 hnl h4 H1
   have hbv:St B w0 wr (star (sl oa ol oc 106 1 (rwV W)) (star (pt bu 73 [.slice (oa.map fun b=>⟨b,0,none⟩) ol oc]) (star (stars (rwH W)) (star (sl fa k fc 3 1 (ints (nLay now l))) (star (pt bo 27 [.slice (some ⟨nb,0,none⟩) m m]) (star (sl (some nb) m m 3 1 (ints now)) F)))))):=H4.out.conseq (by ac_rfl)
   have HBV:=Lib.hid hbv
   clear hbv H4
   go_wp2_with (first
    | (at_builtin;refine wpList_append1 rfl _ _ 73 106 (.agg #[.slice none 0 0]) 24 rfl Tryz.underlying73 Tryz.infoStep rfl HBV.out rfl (.slice FA k fc) rfl rfl (by omega) (by simp only[maxLen];omega) ?_;intro b' c' w4 h5;have H5:=Lib.hid (h5.conseq (show _=star (pt bu 73 [.slice (oa.map fun b=>⟨b,0,none⟩) ol oc]) (star (sl (some b') (ol+1) c' 106 1 (rwV W++[.slice FA k fc])) (star (stars (rwH W)) (star (sl fa k fc 3 1 (ints (nLay now l))) (star (pt bo 27 [.slice (some ⟨nb,0,none⟩) m m]) (star (sl (some nb) m m 3 1 (ints now)) F))))) by ac_rfl));clear h5)
    | (refine wpList_store_pt rfl 73 _ _ rfl Tryz.sizeStepsN H5.out 0 (.slice (some ⟨b',0,none⟩) (ol+1) c') rfl rfl rfl (Nat.zero_lt_one) ?_;intro w5 h6;have H6:=Lib.hid h6;clear h6))
   go_end0
   refine⟨rfl,some b',c',fa,fc,?_⟩
   have h7:=H6.out
   rw[←HFA.out] at h7
   have h8:=rws_push (e:=106) (W:=W) (ka:=fa) (kc:=fc) (l:=nLay now l) (b':=b') (c':=c') (F:=star (pt bu 73 [.slice (some ⟨b',0,none⟩) (ol+1) c']) (star (pt bo 27 [.slice (some ⟨nb,0,none⟩) m m]) (star (sl (some nb) m m 3 1 (ints now)) F))) HWL.out (h7.conseq (by unfold sli;rw[HNK.out];simp only[List.set_cons_zero];ac_rfl))
   exact h8
end
end Go.Proofs.YthbbmdnfkkffjaaGreat
namespace Go.Proofs.YthbbmdnfkkffjaaGreat
open Go.RowKit Go.Proofs.PlaitSep Go.Proofs.PlaitSat
open Go.Proofs.PlaitPure hiding SM
section
variable {B:Nat} {w0 w:World} {p:Nat} {M:MM} {F:HP}
theorem At.row_rd {f:Fl (Fl Int)} {j:Nat} (h:At B w0 w p M F) (hj:(parts p M)[j]?=some (stars (f.rows 3 vI))) {i:Nat} {r:Fl Int} (hi:f.xs[i]?=some r) (hs:r.xs.length≤140737488355328):Rd w (r.a.map fun b=>⟨b,0,none⟩) r.xs.length r.xs:=by
 have h1:=h.st.focusK hj
 have hr:(f.rows 3 vI)[i]?=some (sli 3 r.a r.c r.xs):=by unfold Fl.rows;rw[List.getElem?_map,hi];rfl
 exact St.rd (h1.conseq (by rw[stars_focus hr,star_assoc])) hs
theorem At.row_stays {f:Fl (Fl Int)} {j:Nat} (h:M.last.xs=[]→M.last.a=none) (hj:(parts p M)[j]?=some (stars (f.rows 3 vI))) {i:Nat} {r:Fl Int} (hi:f.xs[i]?=some r) (hs:r.xs.length≤140737488355328):Stays B w0 (star (stars (parts p M)) F) (r.a.map fun b=>⟨b,0,none⟩) r.xs.length r.xs:=fun w P k =>
 At.row_rd (F:=star P F) ⟨k.conseq (by ac_rfl),h⟩ hj hi hs
structure NdOk (S:SM) (last:List Int):Prop where
 steps:S.steps.length≤1000000
 rows:∀ x∈S.steps,x.length≤1000000∧NamesIn S.steps.length x
 last:last.length≤1000000∧NamesIn S.steps.length last
set_option maxRecDepth 100000 in
set_option maxHeartbeats 4000000 in
theorem needed_any (A:Option Addr) (nl c n:Nat) (last:List Int) (h:At B w0 w p M F) (hs:Stays B w0 F A nl last) (hok:NdOk M.sv last) (hn:n≤10000000) :
  Calls Tryz.prog 75 #[.pointer (some ⟨p,0,none⟩),.slice A nl c,.int .i64 n] w fun e w'=>∃ (a:Option Nat) (c' ol:Nat) (W:Rws),e=.returned (.slice (a.map fun b=>⟨b,0,none⟩) ol c')∧W.length=ol∧At B w0 w' p M (star (rwsHP 106 a c' W) F)∧W.map (fun x=>x.2.2)=neededF M.sv.steps last n:=by
 obtain⟨m,hm⟩:∃ m,M.steps.xs.length=m:=⟨_,rfl⟩
 have hsl:M.sv.steps.length=m:=by show (M.steps.xs.map _).length=m;rw[List.length_map];exact hm
 have hmb:m≤1000000:=by rw[←hsl];exact hok.steps
 have hlr:last.length=nl:=(At.rd0 hs h).len
 have hlb:nl≤1000000:=by rw[←hlr];exact hok.last.1
 have hrow:∀ (i:Nat) (r:Fl Int),M.steps.xs[i]?=some r→r.xs.length≤1000000∧NamesIn m r.xs∧gl M.sv.steps i=r.xs:=fun i r hi=>by
  have hi2:M.sv.steps[i]?=some r.xs:=by show (M.steps.xs.map _)[i]?=_;rw[List.getElem?_map,hi];rfl
  have hmem:r.xs∈M.sv.steps:=List.mem_of_getElem? hi2
  have h1:=hok.rows _ hmem
  rw[hsl] at h1
  exact⟨h1.1,h1.2,by unfold gl;rw[List.getD_eq_getElem?_getD,hi2];rfl⟩
 have hla:NamesIn m last:=by rw[←hsl];exact hok.last.2
 have c1:=h.c_steps
 rw[hm] at c1
 obtain⟨X,hX⟩:∃ X,star (stars (parts p M)) F=X:=⟨_,rfl⟩
 have hst:Stays B w0 X A nl last:=fun w P k=>hs w (star P (stars (parts p M))) (k.conseq (by rw[←hX];ac_rfl))
 have hrs:∀ (i:Nat) (r:Fl Int),M.steps.xs[i]?=some r→Stays B w0 X (r.a.map fun b=>⟨b,0,none⟩) r.xs.length r.xs:=fun i r hi=>by rw[←hX];exact At.row_stays (j:=24) h.lastN rfl hi (by have:=(hrow i r hi).1;omega)
 have hF0:∀ (w1:World) (P:HP),St B w0 w1 (star P X)→At B w0 w1 p M (star P F):=fun w1 P k=>⟨k.conseq (by rw[←hX];ac_rfl),h.lastN⟩
 have h0:St B w0 w X:=by rw[←hX];exact h.st
 have HM:=Lib.hid hm
 have HST:=Lib.hid hst
 have HRS:=Lib.hid hrs
 have HROW:=Lib.hid hrow
 have HLA:=Lib.hid hla
 have HAT:=Lib.hid hF0
 have HSL:=Lib.hid hsl
 obtain⟨G,hG⟩:∃ G,nGo M.sv.steps m (nMark (List.replicate m false) last)=G:=⟨_,rfl⟩
 have hnf:neededF M.sv.steps last n=(nOut M.sv.steps G n m 0 (List.replicate m 0) []).2++[nLay (nOut M.sv.steps G n m 0 (List.replicate m 0) []).1 last]:=by unfold neededF;rw[hsl,hG]
 have HNF:=Lib.hid hnf
 have HG:=Lib.hid hG
 have H0:=Lib.hid h0
 clear h hm hst hrs hrow hla hF0 hsl hG hnf hs hok hlr hX h0
 go_enter Tryz.func75,Tryz.ntmps75
 go_wp2_with (first
  | (refine wpList_make rfl _ _ 84 4 (.bool false) 1 rfl Tryz.underlying84 Tryz.infoBool rfl m _ rfl rfl rfl (by omega) (by unfold maxLen;omega) (by omega) H0.out ?_;intro nb w2 h2;have H2:=Lib.hid h2;have H3:=Lib.hid (h2.pt_new #[.slice none 0 0] 84);clear h2)
  | (refine wpList_store_pt rfl 84 _ _ rfl Tryz.sizeBoolsN H3.out 0 (.slice (some ⟨nb,0,none⟩) m m) rfl rfl rfl (Nat.zero_lt_one) ?_;intro w3 h3;have H4:=Lib.hid h3;clear h3))
 clear H2 H3 c1
 have h5:=H4.out.conseq (show _=star (pt w2.heap.size 84 [.slice (some ⟨nb,0,none⟩) m m]) (star (sl (some nb) m m 4 1 ((List.replicate m false).map vB)) X) by simp only[List.set_cons_zero,List.map_replicate];rfl)
 clear H4
 revert h5
 generalize w2.heap.size=bn
 intro h5
 refine (mark_any A nl c bn nb m last (List.replicate m false) h5 HST.out (by simp) (by omega) HLA.out).mono ?_
 rintro e w4 ⟨rfl,h6⟩
 clear h5
 have d1:=h6.pt_cell 0
 simp only[List.getElem?_cons_zero] at d1
 have H6:=Lib.hid h6
 have HNM:=Lib.hid (show (nMark (List.replicate m false) last).length=m by rw[nMark_len];simp)
 clear h6
 go_wp2
 clear d1
 go_loopg [9] m (fun g s9 wr=>∃ (z:Int) (k:Nat) (N:List Bool),s9=.int .i64 z∧z=(k:Int)-1∧k≤m∧Hid (g=k)∧Hid (N.length=m)∧Hid (St B w0 wr (star (pt bn 84 [.slice (some ⟨nb,0,none⟩) m m]) (star (sl (some nb) m m 4 1 (N.map vB)) X)))∧Hid (nGo M.sv.steps k N=G))
 case atStart=>exact⟨_,m,nMark (List.replicate m false) last,by go_num,rfl,Nat.le_refl _,rfl,HNM.out,H6.out,HG.out⟩
 case round =>
  clear H6 HG HNM
  obtain⟨z,k,N,rfl,hz,hkm,hg,HN,H1,HE⟩:=hrel
  have d1:=H1.out.pt_cell 0
  simp only[List.getElem?_cons_zero] at d1
  cases k with
  | zero =>
   obtain rfl:z=-1:=by omega
   have e2:decide ((0:Int)≤-1)=false:=by simp
   have hGN:N=G:=HE.out
   subst hGN
   clear HE hz hkm
   go_upto_region 12 with (first
    | (refine wpList_make rfl _ _ 27 3 (.int .i64 0) 8 rfl Tryz.underlying27 Tryz.infoIntS rfl m _ rfl rfl rfl (by omega) (by unfold maxLen;omega) (by omega) H1.out ?_;intro ob w5 h2;have H2:=Lib.hid h2;have H3:=Lib.hid (h2.pt_new #[.slice none 0 0] 27);clear h2)
    | (refine wpList_store_pt rfl 27 _ _ rfl Tryz.sizeIntsN H3.out 0 (.slice (some ⟨ob,0,none⟩) m m) rfl rfl rfl (Nat.zero_lt_one) ?_;intro w6 h3;have H4:=Lib.hid h3;have H5:=Lib.hid (h3.pt_new #[.slice none 0 0] 73);clear h3))
   have h6:=H5.out
   clear H2 H3 H4 H5 d1 H1
   revert h6
   generalize w6.heap.size=bu
   generalize w5.heap.size=bo
   generalize w6.alloc (Obj.cells #[.slice none 0 0] 73)=w7
   intro h6
   obtain⟨X2,hX2⟩:∃ P,star (star (pt bn 84 [.slice (some ⟨nb,0,none⟩) m m]) (sl (some nb) m m 4 1 (N.map vB))) X=P:=⟨_,rfl⟩
   have h7:St B w0 w7 (layHP none 0 0 [] bu bo ob m (List.replicate m 0) X2):=h6.conseq (by
    unfold layHP
    rw[rwsHP_nil,emp_star,←hX2]
    simp only[List.set_cons_zero,ints,List.map_replicate]
    ac_rfl)
   have HX:=Lib.hid hX2
   have H7:=Lib.hid h7
   have hst2:Stays B w0 X2 A nl last:=by rw[←hX2];exact Stays.more HST.out _
   have HST2:=Lib.hid hst2
   obtain⟨RF,hRF⟩:∃ R,nOut M.sv.steps N n m 0 (List.replicate m 0) []=R:=⟨_,rfl⟩
   have hnf:=HNF.out
   rw[hRF] at hnf
   have HNF2:=Lib.hid hnf
   have HRF:=Lib.hid hRF
   have hcs:=(HAT.out w7 _ (h7.conseq (show _=star (star (layHP none 0 0 [] bu bo ob m (List.replicate m 0) emp) (star (pt bn 84 [.slice (some ⟨nb,0,none⟩) m m]) (sl (some nb) m m 4 1 (N.map vB)))) X by unfold layHP;rw[←hX2,star_emp];ac_rfl))).c_steps
   rw[HM.out] at hcs
   obtain⟨SA,hSA⟩:∃ A,(M.steps.a.map fun b=>(⟨b,0,none⟩:Addr))=A:=⟨_,rfl⟩
   rw[hSA] at hcs
   try rw[hSA]
   have HSA:=Lib.hid hSA
   clear h6 h7 hX2 hst2 hRF hnf HNF hSA
   go_wp2
   clear hcs
   go_loopg [57] m (fun g s57 wr=>∃ (i ol:Nat) (oa:Option Nat) (oc:Nat) (W:Rws) (now:List Int),s57=.int .i64 i∧i≤m∧ol≤i∧Hid (g=m-i)∧Hid (W.length=ol)∧Hid (now.length=m)∧Hid (St B w0 wr (layHP oa oc ol W bu bo ob m now X2))∧Hid (nOut M.sv.steps N n (m-i) i now (W.map fun x=>x.2.2)=RF))
   case atStart=>exact⟨0,0,none,0,[],List.replicate m 0,rfl,Nat.zero_le _,Nat.le_refl _,rfl,rfl,Lib.hid (by simp),H7.out,HRF.out⟩
   case round =>
    clear H7 HRF
    obtain⟨i,ol,oa,oc,W,now,rfl,him,hol,hg2,HWL,HNW,H8,HE⟩:=hrel
    have hp:St B w0 wr (star (pt bu 73 [.slice (oa.map fun b=>⟨b,0,none⟩) ol oc]) (star (pt bo 27 [.slice (some ⟨ob,0,none⟩) m m]) (star (rwsHP 106 oa oc W) (star (sl (some ob) m m 3 1 (ints now)) X2)))):=H8.out.conseq (by unfold layHP;ac_rfl)
    have d3:=hp.pt_cell 0
    have d4:=(hp.conseq (show _=star (pt bo 27 [.slice (some ⟨ob,0,none⟩) m m]) (star (pt bu 73 [.slice (oa.map fun b=>⟨b,0,none⟩) ol oc]) (star (rwsHP 106 oa oc W) (star (sl (some ob) m m 3 1 (ints now)) X2))) by ac_rfl)).pt_cell 0
    simp only[List.getElem?_cons_zero] at d3 d4
    have hpn:St B w0 wr (star (pt bn 84 [.slice (some ⟨nb,0,none⟩) m m]) (star (sl (some nb) m m 4 1 (N.map vB)) (star (layHP oa oc ol W bu bo ob m now emp) X))):=H8.out.conseq (by unfold layHP;rw[←HX.out,star_emp];ac_rfl)
    have d5:=hpn.pt_cell 0
    simp only[List.getElem?_cons_zero] at d5
    by_cases hil:i<m
    ·have e3:decide ((i:Int)<(m:Int))=true:=by simp;omega
     obtain⟨r,hr⟩:∃ r,M.steps.xs[i]?=some r:=⟨M.steps.xs[i]'(by rw[HM.out];exact hil),by rw[List.getElem?_eq_getElem (by rw[HM.out];exact hil)]⟩
     obtain⟨r1,r2,r3⟩:=HROW.out i r hr
     have hE:=HE.out
     rw[show m-i=(m-(i+1))+1 by omega,nOut,r3] at hE
     have hat:=HAT.out wr _ (hpn.conseq (show _=star (star (pt bn 84 [.slice (some ⟨nb,0,none⟩) m m]) (star (sl (some nb) m m 4 1 (N.map vB)) (layHP oa oc ol W bu bo ob m now emp))) X by ac_rfl))
     obtain⟨sb,hsb⟩:=hat.b_steps (by rw[HM.out];omega)
     have hSA2:=HSA.out
     rw[hsb] at hSA2
     obtain rfl:SA=some ⟨sb,0,none⟩:=hSA2.symm
     obtain⟨c2,_⟩:=hat.o_steps hsb hr
     obtain⟨g,hgb⟩:∃ g,gB N i=g:=⟨_,rfl⟩
     rw[hgb] at hE
     have d2:wr.cell? ⟨nb,i,none⟩=some (.bool g):=by
      have h2:=hpn.conseq (show _=star (sl (some nb) m m 4 1 (N.map vB)) (star (pt bn 84 [.slice (some ⟨nb,0,none⟩) m m]) (star (layHP oa oc ol W bu bo ob m now emp) X)) by ac_rfl)
      rw[h2.sl_cell i (by rw[List.length_map,HN.out];exact hil),List.getElem?_map,gB_some N i (by rw[HN.out];exact hil),hgb];rfl
     have p0:(0:Int)≤(i:Int):=by omega
     have p1:(i:Int)<(m:Int):=by omega
     obtain⟨rl,hrl⟩:∃ n,r.xs.length=n:=⟨_,rfl⟩
     have hsr:Stays B w0 X2 (r.a.map fun b=>⟨b,0,none⟩) r.xs.length r.xs:=by rw[←HX.out];exact Stays.more (HRS.out i r hr) _
     rw[hrl] at c2 hsr r1
     have HSR:=Lib.hid hsr
     have HR2:=Lib.hid r2
     have hil2:i<(ints now).length:=by rw[ints_len,HNW.out];exact hil
     have HO:=Lib.hid (hp.conseq (show _=star (sl (some ob) m m 3 1 (ints now)) (star (pt bu 73 [.slice (oa.map fun b=>⟨b,0,none⟩) ol oc]) (star (pt bo 27 [.slice (some ⟨ob,0,none⟩) m m]) (star (rwsHP 106 oa oc W) X2))) by ac_rfl))
     obtain⟨OA,hOA⟩:∃ A,(oa.map fun b=>(⟨b,0,none⟩:Addr))=A:=⟨_,rfl⟩
     rw[hOA] at d3
     have HOA:=Lib.hid hOA
     obtain⟨RA,hRA⟩:∃ A,(r.a.map fun b=>(⟨b,0,none⟩:Addr))=A:=⟨_,rfl⟩
     rw[hRA] at c2
     have HRA:=Lib.hid hRA
     have HE2:=Lib.hid hE
     clear hE HE hat hr r2 r3 hsb hgb hrl hsr hp hpn hOA hRA hSA2
     cases g with
     | true =>
      go_upto_region 17 with (refine wpList_store_sl rfl 3 _ _ rfl Tryz.sizeIntN HO.out i (.int .i64 ((n:Int)+ol)) rfl rfl rfl hil2 ?_;intro w8 h9;have H9:=Lib.hid h9;clear h9)
      have h10:St B w0 w8 (layHP oa oc ol W bu bo ob m (now.set i ((n:Int)+ol)) X2):=H9.out.conseq (by unfold layHP;rw[isN];ac_rfl)
      have hE3:=HE2.out
      rw[if_pos rfl,List.length_map,HWL.out] at hE3
      have HE3:=Lib.hid hE3
      have H10:=Lib.hid h10
      clear hE3 HE2 h10 H9 HO d3 d4 d5 d2 c2
      try rw[←HRA.out]
      go_wp2_with fail
      refine (lay_any' _ rl r.c bu bo ob m ol r.xs (now.set i ((n:Int)+ol)) oa oc W H10.out HSR.out (by rw[List.length_set];exact HNW.out) (by omega) r1 HWL.out (by omega) HR2.out).mono ?_
      rintro e w9 ⟨rfl,oa',oc',ka,kc,h9⟩
      have H11:=Lib.hid h9
      clear h9
      go_wp2
      go_roundg (m-(i+1))
      case measure=>have:=hg2.out;omega
      case rel=>exact⟨i+1,ol+1,oa',oc',W++[(ka,kc,nLay (now.set i ((n:Int)+ol)) r.xs)],now.set i ((n:Int)+ol),by go_num,by omega,by omega,rfl,Lib.hid (by rw[List.length_append,HWL.out];rfl),Lib.hid (by rw[List.length_set];exact HNW.out),H11.out,Lib.hid (by rw[List.map_append];exact HE3.out)⟩
     | false =>
      go_wp2
      go_roundg (m-(i+1))
      case measure=>have:=hg2.out;omega
      case rel=>exact⟨i+1,ol,oa,oc,W,now,by go_num,by omega,by omega,rfl,HWL,HNW,H8,HE2.out⟩
    ·obtain rfl:i=m:=by omega
     have e3:decide ((i:Int)<(i:Int))=false:=by simp
     have hE:=HE.out
     rw[Nat.sub_self] at hE
     have hE2:RF=(now,W.map fun x=>x.2.2):=hE.symm
     have HE2:=Lib.hid hE2
     clear hE hE2 HE hp hpn d3 d4 d5
     go_wp2_with fail
     refine (lay_any' A nl c bu bo ob i ol last now oa oc W H8.out HST2.out HNW.out (by omega) (by omega) HWL.out (by omega) HLA.out).mono ?_
     rintro e w9 ⟨rfl,oa',oc',ka,kc,h9⟩
     have hp2:St B w0 w9 (star (pt bu 73 [.slice (oa'.map fun b=>⟨b,0,none⟩) (ol+1) oc']) (star (pt bo 27 [.slice (some ⟨ob,0,none⟩) i i]) (star (rwsHP 106 oa' oc' (W++[(ka,kc,nLay now last)])) (star (sl (some ob) i i 3 1 (ints now)) X2)))):=h9.conseq (by unfold layHP;ac_rfl)
     have d6:=hp2.pt_cell 0
     simp only[List.getElem?_cons_zero] at d6
     have hfin:=HAT.out w9 _ ((hp2.conseq (show _=star (star (rwsHP 106 oa' oc' (W++[(ka,kc,nLay now last)])) X) (star (star (pt bu 73 [.slice (oa'.map fun b=>⟨b,0,none⟩) (ol+1) oc']) (pt bo 27 [.slice (some ⟨ob,0,none⟩) i i])) (star (sl (some ob) i i 3 1 (ints now)) (star (pt bn 84 [.slice (some ⟨nb,0,none⟩) i i]) (sl (some nb) i i 4 1 (N.map vB))))) by rw[←HX.out];ac_rfl)).drop)
     have HFIN:=Lib.hid hfin
     obtain⟨OA,hOA⟩:∃ A,(oa'.map fun b=>(⟨b,0,none⟩:Addr))=A:=⟨_,rfl⟩
     rw[hOA] at d6
     have HOA:=Lib.hid hOA
     clear h9 hp2 hfin hOA
     go_wp2
     go_ret
     exact⟨oa',oc',ol+1,W++[(ka,kc,nLay now last)],by rw[HOA.out];rfl,by rw[List.length_append,HWL.out];rfl,HFIN.out,by rw[HNF2.out,HE2.out,List.map_append];rfl⟩
  | succ k =>
   obtain rfl:z=(k:Int):=by omega
   have e2:decide ((0:Int)≤(k:Int))=true:=by simp
   have hkl:k<m:=by omega
   obtain⟨r,hr⟩:∃ r,M.steps.xs[k]?=some r:=⟨M.steps.xs[k]'(by rw[HM.out];exact hkl),by rw[List.getElem?_eq_getElem (by rw[HM.out];exact hkl)]⟩
   obtain⟨r1,r2,r3⟩:=HROW.out k r hr
   have hE:=HE.out
   rw[nGo,r3] at hE
   have hat:=HAT.out wr _ (H1.out.conseq (show _=star (star (pt bn 84 [.slice (some ⟨nb,0,none⟩) m m]) (sl (some nb) m m 4 1 (N.map vB))) X by ac_rfl))
   obtain⟨sb,hsb⟩:=hat.b_steps (by rw[HM.out];omega)
   have c1:=hat.c_steps
   rw[HM.out,hsb] at c1
   obtain⟨c2,_⟩:=hat.o_steps hsb hr
   obtain⟨g,hgb⟩:∃ g,gB N k=g:=⟨_,rfl⟩
   rw[hgb] at hE
   have d2:wr.cell? ⟨nb,k,none⟩=some (.bool g):=by
    have h2:=H1.out.conseq (show _=star (sl (some nb) m m 4 1 (N.map vB)) (star (pt bn 84 [.slice (some ⟨nb,0,none⟩) m m]) X) by ac_rfl)
    rw[h2.sl_cell k (by rw[List.length_map,HN.out];exact hkl),List.getElem?_map,gB_some N k (by rw[HN.out];exact hkl),hgb];rfl
   have p0:(0:Int)≤(k:Int):=by omega
   have p1:(k:Int)<(m:Int):=by omega
   obtain⟨rl,hrl⟩:∃ n,r.xs.length=n:=⟨_,rfl⟩
   have hsr:=HRS.out k r hr
   rw[hrl] at c2 hsr
   have HSR:=Lib.hid hsr
   have HE2:=Lib.hid hE
   have HR2:=Lib.hid r2
   clear hE HE hat hr r1 r2 r3 hsb hgb hrl hsr hkm hz
   cases g with
   | true =>
    go_wp2_with fail
    refine (mark_any _ rl r.c bn nb m r.xs N H1.out HSR.out HN.out (by omega) HR2.out).mono ?_
    rintro e w5 ⟨rfl,h2⟩
    have H2:=Lib.hid h2
    clear h2
    go_wp2
    go_roundg k
    case measure=>have:=hg.out;omega
    case rel=>exact⟨_,k,nMark N r.xs,by go_num,rfl,by omega,rfl,Lib.hid (by rw[nMark_len];exact HN.out),H2.out,HE2.out⟩
   | false =>
    go_wp2
    go_roundg k
    case measure=>have:=hg.out;omega
    case rel=>exact⟨_,k,N,by go_num,rfl,by omega,rfl,HN,H1.out,HE2.out⟩
end
end Go.Proofs.YthbbmdnfkkffjaaGreat
namespace Go.Proofs.YthbbmdnfkkffjaaGreat
open Go.RowKit Go.Proofs.PlaitSep Go.Proofs.PlaitPure
theorem RdB.drawn {w w':World} {A:Option Addr} {n:Nat} {xs:List Int} (h:RdB w A n xs) (d:Drawn w w'):RdB w' A n xs:=h.heap d.heap
end Go.Proofs.YthbbmdnfkkffjaaGreat
namespace Go.Proofs.YthbbmdnfkkffjaaGreat
open Go.RowKit Go.Proofs.PlaitSep Go.Proofs.PlaitPure
end Go.Proofs.YthbbmdnfkkffjaaGreat

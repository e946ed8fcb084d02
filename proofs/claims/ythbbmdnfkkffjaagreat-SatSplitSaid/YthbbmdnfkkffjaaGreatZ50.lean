/-
  Parts of the proof, joined by program: Kn, Lw2, Vars, Lw1.
-/
import Derived.Test.YthbbmdnfkkffjaaGreatZ49
import Derived.Test.YthbbmdnfkkffjaaGreatZ34
import Derived.Test.YthbbmdnfkkffjaaGreatZ46
namespace Go.Proofs.YthbbmdnfkkffjaaGreat
open Go.RowKit Go.Proofs.PlaitSep Go.Proofs.PlaitSat
open Go.Proofs.PlaitPure hiding SM
section
variable {B:Nat} {w0 w:World} {q:Nat} {S:PlaitSat.SM} {F:HP}
theorem SatI.stF (h:SatI B w0 w q S F):∃ X,St B w0 w (star F X):=by
 obtain⟨p,M,h1,_⟩:=h
 exact⟨_,h1.st.conseq (show _=star F (star (stars (parts p M)) (pt q 67 [.pointer (some ⟨p,0,none⟩)])) by ac_rfl)⟩
theorem SatI.rdI {t:TypeId} {a:Option Nat} {c:Nat} {xs:List Int} (h:SatI B w0 w q S (star (sli t a c xs) F)) (hs:xs.length≤1000000):Rd w (a.map fun b=>⟨b,0,none⟩) xs.length xs:=by
 obtain⟨X,k⟩:=h.stF
 exact St.rd (k.conseq (star_assoc _ _ _)) (by omega)
theorem SatI.rdY {t:TypeId} {a:Option Nat} {c:Nat} {xs:List Int} (h:SatI B w0 w q S (star (slb t a c xs) F)) (hs:xs.length≤1000000):RdB w (a.map fun b=>⟨b,0,none⟩) xs.length xs:=by
 obtain⟨X,k⟩:=h.stF
 exact St.rdB (k.conseq (star_assoc _ _ _)) (by omega)
theorem SatI.below (h:SatI B w0 w q S F):Below B w0 w:=by obtain⟨p,M,h1,_⟩:=h;exact h1.st.below
theorem SatI.frame {G:HP} (h:SatI B w0 w q S F) (e:F=G):SatI B w0 w q S G:=e▸h
theorem SatI.built (h:SatI B w0 w q S F) (xs:List Int) (hp:0<xs.length) (hs:xs.length≤1000000):SatI B w0 (w.alloc (.cells (ints xs).toArray 3)) q S (star (sli 3 (some w.heap.size) xs.length xs) F):=by
 have h1:St w.heap.size w (w.alloc (.cells (ints xs).toArray 3)) (star (pt w.heap.size 3 (ints xs)) emp):=by
  have:=(St.start w).pt_new (ints xs).toArray 3
  simpa using this
 have h2:St w.heap.size w (w.alloc (.cells (ints xs).toArray 3)) (sli 3 (some w.heap.size) xs.length xs):=by
  have h3:St w.heap.size w (w.alloc (.cells (ints xs).toArray 3)) (star (sl (some w.heap.size) xs.length xs.length 3 1 (ints xs)) emp):=⟨h1.below,h1.base,h1.sat.pt_sl (by simp[ints]) (Nat.le_refl _) (by unfold maxLen;omega) (by simp[ints]) (by rw[Nat.mul_one,List.take_of_length_le (by simp[ints])])⟩
  rw[star_emp] at h3
  exact h3
 exact h.nest h2
theorem SatI.addStep (h:SatI B w0 w q S F) (xs:List Int) (n:Nat) (hn:xs.length=n) (hp:0<n) (hs:n≤200000) (hok:onceE xs=0→AdOk S (onceL xs)) (R:PlaitSat.SM×Int) (hR:satAdd S xs=R) :
  Calls Tryz.prog 18 #[.pointer (some ⟨q,0,none⟩),.slice (some ⟨w.heap.size,0,none⟩) n n] (w.alloc (.cells (ints xs).toArray 3)) fun e w'=>e=.returned (.int .i64 R.2)∧SatI B w0 w' q R.1 F:=by
 subst hn hR
 have h1:=h.built xs hp (by omega)
 have h2:=h1.rdI (by omega)
 refine (satAdd_any _ _ xs.length xs h1 h2 hs hok).mono ?_
 rintro e w' ⟨rfl,h3⟩
 exact⟨rfl,h3.drop⟩
theorem SatI.solveStep (h:SatI B w0 w q S F) (xs:List Int) (n:Nat) (hn:xs.length=n) (hp:0<n) (hs:n≤200000) (hok:xs.all litB=true→SvOk S xs) (R:PlaitSat.SM×Int×Int) (hR:satSolve S xs=R) :
  Calls Tryz.prog 19 #[.pointer (some ⟨q,0,none⟩),.slice (some ⟨w.heap.size,0,none⟩) n n] (w.alloc (.cells (ints xs).toArray 3)) fun e w'=>e=.returned (.tuple #[.int .i64 R.2.1,.int .i64 R.2.2])∧SatI B w0 w' q R.1 F:=by
 subst hn hR
 have h1:=h.built xs hp (by omega)
 refine (satSolve_any _ _ xs.length xs h1 (Stays.own _ _ _ _ _ (by omega)) hok).mono ?_
 rintro e w' ⟨rfl,h3⟩
 exact⟨rfl,h3.drop⟩
theorem SatI.solveNil (h:SatI B w0 w q S F) (hok:SvOk S []) (R:PlaitSat.SM×Int×Int) (hR:satSolve S []=R) :
  Calls Tryz.prog 19 #[.pointer (some ⟨q,0,none⟩),.slice none 0 0] w fun e w'=>e=.returned (.tuple #[.int .i64 R.2.1,.int .i64 R.2.2])∧SatI B w0 w' q R.1 F:=by
 subst hR
 exact satSolve_any none 0 0 [] h (fun _ _ _=>⟨rfl,by omega,fun k=>by omega⟩) fun _=>hok
theorem SatI.valueStep (h:SatI B w0 w q S F) (v:Int) (hl:S.model.length≤1000000) (b:Bool) (hb:(decide (0<v)&&decide (v<S.model.length)&&gB S.model v.toNat)=b) :
  Calls Tryz.prog 21 #[.pointer (some ⟨q,0,none⟩),.int .i64 v] w fun e w'=>e=.returned (.bool b)∧SatI B w0 w' q S F:=by
 subst hb
 refine (satValue_any v h hl).mono ?_
 rintro e w' ⟨rfl,hd⟩
 exact⟨rfl,h.drawn hd⟩
theorem SatI.coreStep (h:SatI B w0 w q S F) (l:List Int) (n:Nat) (hc:S.core=l) (hn:l.length=n) (hl:n≤1000000) :
  Calls Tryz.prog 22 #[.pointer (some ⟨q,0,none⟩)] w fun e w'=>∃ a c',e=.returned (.slice (Option.map (fun b=>(⟨b,0,none⟩:Addr)) a) n c')∧SatI B w0 w' q S (star (sli 3 a c' l) F):=by
 subst hc hn
 refine (satCore_any h hl).mono ?_
 rintro e w' ⟨a,c',rfl,h2⟩
 exact⟨a,c',rfl,h.nest h2⟩
theorem SatI.grow {w':World} (h:SatI B w0 w q S F) (k:Below w.heap.size w w'):SatI B w0 w' q S F:=by
 obtain⟨p,M,h1,h2⟩:=h
 exact⟨p,M,h1.grow k,h2⟩
theorem SatI.clausesStep (h:SatI B w0 w q S F) (G:List (List Int)) (n:Nat) (hG:S.given=G) (hn:G.length=n) (hs:∀ x∈G,x.length≤1000000) (hb:n≤1000000) :
  Calls Tryz.prog 23 #[.pointer (some ⟨q,0,none⟩)] w fun e w'=>∃ (a:Option Nat) (c:Nat),e=.returned (.slice (Option.map (fun b=>(⟨b,0,none⟩:Addr)) a) n c)∧SatI B w0 w' q S F∧Rd2 w' (Option.map (fun b=>(⟨b,0,none⟩:Addr)) a) n G:=by
 subst hG hn
 refine (satClauses_any h hs hb).mono ?_
 rintro e w' ⟨a,c,W,rfl,h1,h2⟩
 have hl:W.length=S.given.length:=by rw[←h2,List.length_map]
 have h3:=rws_rd h1 (fun x hx=>by
  have:=hs x.2.2 (by rw[←h2];exact List.mem_map.2 ⟨x,hx,rfl⟩)
  omega) (by omega)
 rw[hl,h2] at h3
 exact⟨a,c,by rw[hl],(h.nest h1).drop,h3⟩
theorem Stays.here {t:TypeId} {a:Option Nat} {c:Nat} {xs:List Int} (n:Nat) (hn:xs.length=n) (hs:xs.length≤1000000):Stays B w0 (star (sli t a c xs) F) (a.map fun b=>⟨b,0,none⟩) n xs:=by subst hn;exact Stays.own _ _ _ _ _ hs
theorem Stays.nil:Stays B w0 F none 0 []:=fun _ _ _=>⟨rfl,by omega,fun k=>by omega⟩
end
theorem ad_eq {S:PlaitSat.SM} {l l2:List Int} (e:onceL l=l2) (h:AdOk S l2):AdOk S (onceL l):=by rw[e];exact h
set_option maxRecDepth 100000 in
set_option maxHeartbeats 4000000 in
theorem known_any (w:World):Calls Tryz.prog 15 #[] w fun e w'=>e=.returned (.bool true)∧Below w.heap.size w w':=by
 go_enter Tryz.func15,Tryz.ntmps15
 go_wp2_with fail
 refine (satNew_any 1000 100 w).mono ?_
 rintro e w1 ⟨q,rfl,h1⟩
 have H1:=Lib.hid h1
 clear h1
 go_wp2_with fail
 refine (H1.out.addStep [1,2] 2 rfl (by omega) (by omega) (fun _=>ad_eq (by decide +kernel) (zs0.add cl1).1) _ add1).mono ?_
 rintro e w2 ⟨rfl,h2⟩
 have H2:=Lib.hid h2
 clear h2 H1
 go_wp2_with fail
 refine (H2.out.addStep [-1,2] 2 rfl (by omega) (by omega) (fun _=>ad_eq (by decide +kernel) (zs1.add cl2).1) _ add2).mono ?_
 rintro e w3 ⟨rfl,h3⟩
 have H3:=Lib.hid h3
 clear h3 H2
 go_wp2_with fail
 refine (H3.out.addStep [1,-2] 2 rfl (by omega) (by omega) (fun _=>ad_eq (by decide +kernel) (zs2.add cl3).1) _ add3).mono ?_
 rintro e w4 ⟨rfl,h4⟩
 have H4:=Lib.hid h4
 clear h4 H3
 go_wp2_with fail
 refine (H4.out.solveNil sv1.1 _ sol1).mono ?_
 rintro e w5 ⟨rfl,h5⟩
 have H5:=Lib.hid h5
 clear h5 H4
 go_wp2_with fail
 refine (H5.out.valueStep 1 (by rw[k2m];decide) true (by rw[k2m];decide)).mono ?_
 rintro e w6 ⟨rfl,h6⟩
 have H6:=Lib.hid h6
 clear h6 H5
 go_wp2_with fail
 refine (H6.out.valueStep 2 (by rw[k2m];decide) true (by rw[k2m];decide)).mono ?_
 rintro e w7 ⟨rfl,h7⟩
 have H7:=Lib.hid h7
 clear h7 H6
 go_wp2_with fail
 refine (H7.out.solveStep [-1] 1 rfl (by omega) (by omega) (fun _=>sv2.1) _ sol2).mono ?_
 rintro e w8 ⟨rfl,h8⟩
 have H8:=Lib.hid h8
 clear h8 H7
 go_wp2_with fail
 refine (H8.out.coreStep [-1] 1 k3c rfl (by omega)).mono ?_
 rintro e w9 ⟨ca,cc,rfl,h9⟩
 have H9:=Lib.hid h9
 clear h9 H8
 go_wp2_with fail
 refine (H9.out.addStep [-1,-2] 2 rfl (by omega) (by omega) (fun _=>ad_eq (by decide +kernel) (sv2.2.1.add cl4).1) _ add4).mono ?_
 rintro e w10 ⟨rfl,h10⟩
 have H10:=Lib.hid h10
 clear h10 H9
 go_wp2_with fail
 refine (H10.out.solveNil sv3.1 _ sol3).mono ?_
 rintro e w11 ⟨rfl,h11⟩
 have H11:=Lib.hid h11
 clear h11 H10
 go_wp2_with fail
 refine (satTrace_any H11.out trOk5).mono ?_
 rintro e w12 ⟨h12,_⟩
 obtain⟨ta,tc,rfl,h13,t1,t2⟩:=h12 tr2
 obtain⟨nb,hnb⟩:∃ n,(satTrace K5).1.length=n:=⟨_,rfl⟩
 have hnb2:bts.length=nb:=hnb
 rw[hnb] at t1 ⊢
 have H12:=Lib.hid (show SatI w.heap.size w w12 q K5 (star (slb 5 ta tc bts) (star (sli 3 ca cc [-1]) emp)) from h13)
 have HNB:=Lib.hid hnb2
 clear h13 H11 hnb hnb2
 go_wp2_with fail
 refine (H12.out.solveStep [0] 1 rfl (by omega) (by omega) (fun k=>absurd k (by decide +kernel)) _ sol4).mono ?_
 rintro e w13 ⟨rfl,h13⟩
 have H13:=Lib.hid h13
 clear h13 H12
 go_wp2_with fail
 refine (H13.out.addStep [1,-1] 2 rfl (by omega) (by omega) (fun k=>absurd k (by decide +kernel)) _ add5).mono ?_
 rintro e w14 ⟨rfl,h14⟩
 have H14:=Lib.hid h14
 clear h14 H13
 go_wp2_with fail
 have h15:=H14.out.built [-1] (by decide) (by decide)
 have r1:=h15.rdI (by decide)
 have r2:=(h15.frame (show _=star (sli 3 ca cc [-1]) (star (sli 3 (some w14.heap.size) 1 [-1]) (star (slb 5 ta tc bts) emp)) by simp only[List.length_singleton];ac_rfl)).rdI (by decide)
 have HI:=Lib.hid (ints_any _ _ 1 cc 1 1 [-1] [-1] _ r2 r1)
 have H15:=Lib.hid (h15.frame (show _=star (slb 5 ta tc bts) (star (sli 3 ca cc [-1]) (star (sli 3 (some w14.heap.size) 1 [-1]) emp)) by simp only[List.length_singleton];ac_rfl))
 clear h15 r1 r2 H14
 refine HI.out.mono ?_
 rintro e w15 ⟨rfl,hd⟩
 have H16:=Lib.hid (H15.out.drawn hd)
 clear hd H15 HI
 go_wp2_with fail
 refine (H16.out.clausesStep _ 4 tr_given rfl (by decide) (by omega)).mono ?_
 rintro e w17 ⟨ga,gc,rfl,h17,r17⟩
 have y17:=h17.rdY (by have:=bts_len;omega)
 rw[HNB.out] at y17
 have hbl:=bts_len
 rw[HNB.out] at hbl
 have hch:=bts_chk
 rw[tr_given] at hch
 have HC:=Lib.hid (check_any _ 4 gc _ _ nb tc bts w17 r17 y17 bts_bytes (by omega) hbl t1 t2 (by decide))
 have H17:=Lib.hid h17
 have HCH:=Lib.hid hch
 have HBL:=Lib.hid hbl
 clear h17 r17 y17 H16 h12 hch hbl
 go_wp2_with fail
 refine HC.out.mono ?_
 rintro e w18 ⟨rfl,hb⟩
 rw[HCH.out]
 have H18:=Lib.hid (H17.out.grow hb)
 clear hb HC H17
 go_wp2_with fail
 refine (H18.out.clausesStep _ 4 tr_given rfl (by decide) (by omega)).mono ?_
 rintro e w19 ⟨ga2,gc2,rfl,h19,r19⟩
 have y19:=h19.rdY (by have:=bts_len;omega)
 rw[HNB.out] at y19
 have HC:=Lib.hid (rcheck_any _ 4 gc2 _ _ nb tc bts w19 r19 y19 bts_bytes (by omega) HBL.out t1 t2 (by decide))
 have H19:=Lib.hid h19
 clear h19 r19 y19 H18
 go_wp2_with fail
 refine HC.out.mono ?_
 rintro e w20 ⟨rfl,hb⟩
 rw[HCH.out]
 have H20:=Lib.hid (H19.out.grow hb)
 clear hb HC H19
 go_wp2
 go_ret
 exact⟨rfl,H20.out.below⟩
end Go.Proofs.YthbbmdnfkkffjaaGreat
namespace Go.Proofs.YthbbmdnfkkffjaaGreat
open Go.RowKit Go.Proofs.PlaitSep Go.Proofs.PlaitPure
theorem mem_gi {l:List Int} {x:Int} (h:x∈l):∃ i,i<l.length∧gi l i=x:=by
 obtain⟨i,hi,e⟩:=List.getElem_of_mem h
 exact⟨i,hi,by rw[gi_eq _ _ hi,e]⟩
theorem hasB_iff {xs:List Int} {x:Int}:hasB xs x=true↔x∈xs:=by
 unfold hasB;simp
theorem onceE_both {xs:List Int} {x:Int} (ha:∀ y∈xs,litB y=true) (hx:x∈onceL xs) (hn:-x∈onceL xs):onceE xs=112:=by
 unfold onceE
 rw[if_pos (by rw[List.all_eq_true];exact ha),if_pos]
 unfold bothB
 rw[List.any_eq_true]
 exact⟨x,onceL_mem.1 hx,by simpa using onceL_mem.1 hn⟩
theorem onceE_none {xs:List Int} (ha:∀ y∈xs,litB y=true) (h:∀ x∈onceL xs,-x∉onceL xs):onceE xs=0:=by
 unfold onceE
 rw[if_pos (by rw[List.all_eq_true];exact ha),if_neg]
 unfold bothB
 rw[List.any_eq_true]
 rintro⟨x,hx,hn⟩
 exact h x (onceL_mem.2 hx) (onceL_mem.2 (by simpa using hn))
set_option maxRecDepth 100000 in
set_option maxHeartbeats 1000000 in
theorem kept_any (A:Option Addr) (n cap:Nat) (xs:List Int) (w:World) (hr:Rd w A n xs) (hn:n≤1000000) :
  Calls Tryz.prog 38 #[.slice A n cap] w (OncePost w xs):=by
 have HR:=Lib.hid hr
 clear hr
 go_enter Tryz.func38,Tryz.ntmps38
 go_wp2
 go_loopw [4,5] (fun v4 v5 wr=>∃ (j:Nat) (out:List Int) (oa:Option Nat) (oc:Nat),j≤n∧out.length≤j∧v5=.int .i64 j∧v4=slv oa out.length oc∧Hid (onceOut [] (xs.take j)=out)∧Hid (∀ x∈xs.take j,litB x=true) ∧
   Hid (St w.heap.size w wr (star (sli 3 oa oc out) emp))) (fun _ v5 _=>n-(intOf v5).toNat)
 case atStart=>exact⟨0,[],none,0,Nat.zero_le _,Nat.le_refl _,rfl,rfl,rfl,(by simp:∀ x∈xs.take 0,litB x=true),⟨(St.start w).below,(St.start w).base,(St.start w).sat.sl_nil _ _⟩⟩
 case round =>
  obtain⟨j,out,oa,oc,hj,hol,rfl,rfl,HO,HL,HST⟩:=hrel
  obtain⟨ol,hol2⟩:∃ ol,out.length=ol:=⟨_,rfl⟩
  have HOL:=Lib.hid hol2
  rw[hol2] at hol ⊢
  clear hol2
  by_cases hjn:j<n
  ·obtain⟨ab,ao,rfl,hc⟩:=(HR.out.grow HST.out.below).cells (by omega)
   have d1:=hc j hjn
   clear hc
   obtain⟨x,hx⟩:∃ x,gi xs j=x:=⟨_,rfl⟩
   rw[hx] at d1
   have hjx:j<xs.length:=by have:=HR.out.len;omega
   have HX:=Lib.hid hx
   have HJX:=Lib.hid hjx
   clear hx hjx
   cases hlb:litB x with
   | false =>
    have he:=OnceAt.bad HJX.out HX.out hlb
    have hfin:OncePost w xs (.returned (.tuple #[.slice none 0 0,.int .i64 110])) wr:=⟨fun h=>absurd (he.symm.trans h) (by decide),fun _=>⟨by rw[he],HST.out.below,HST.out.base,Sat.emp _ _⟩⟩
    have HF:=Lib.hid hfin
    clear hfin he
    unfold slv
    by_cases h1:x=0
    ·have hd1:(x==0)=true:=by simpa using h1
     clear hlb h1
     go_wp2
     go_ret2
     exact HF.out
    ·have hd1:(x==0)=false:=by simpa using h1
     by_cases h2:65536<x
     ·have hd2:decide (65536<x)=true:=by simpa using h2
      clear hlb h1
      go_wp2
      go_ret2
      exact HF.out
     ·have hd2:decide (65536<x)=false:=by simpa using h2
      have hd3:decide (x< -65536)=true:=by simp[litB] at hlb;simp;omega
      clear hlb h1
      go_wp2
      go_ret2
      exact HF.out
   | true =>
    obtain⟨h1,h2,h3⟩:=litB_iff.1 hlb
    have hd1:(x==0)=false:=by simpa using h1
    have hd2:decide (65536<x)=false:=by simp;omega
    have hd3:decide (x< -65536)=false:=by simp;omega
    have HLB:=Lib.hid hlb
    have ht:xs.take (j+1)=xs.take j++[x]:=by rw[take_gi1 HJX.out,HX.out]
    have hall:∀ y∈xs.take (j+1),litB y=true:=by
     intro y hy
     rw[ht] at hy
     rcases List.mem_append.1 hy with hy | hy
     ·exact HL.out y hy
     ·rw[List.mem_singleton.1 hy];exact HLB.out
    have hrd:=St.rd HST.out (by rw[HOL.out];omega)
    have hha:=has_any _ _ oc out x wr hrd
    obtain⟨bb,hbb⟩:∃ bb,hasB out x=bb:=⟨_,rfl⟩
    rw[hbb,HOL.out] at hha
    have hout:onceOut [] (xs.take (j+1))=if x∈out then out else out++[x]:=by rw[ht,onceOut_snoc,HO.out]
    have HHA:=Lib.hid hha
    have HBB:=Lib.hid hbb
    have HALL:=Lib.hid hall
    have HOUT:=Lib.hid hout
    clear hlb h1 ht hall hrd hha hbb hout
    unfold slv
    cases bb with
    | true =>
     go_wp2_with (go_at_call 20;refine (HHA.out).mono ?_;rintro e w' ⟨rfl,rfl⟩)
     go_roundw
     case rel =>
      refine⟨j+1,out,oa,oc,by omega,by rw[HOL.out];omega,by go_num,by rw[HOL.out],?_,HALL.out,HST.out⟩
      exact (HOUT.out.trans (if_pos (hasB_iff.1 HBB.out)):onceOut [] (xs.take (j+1))=out)
     case measure=>simp[intOf];omega
    | false =>
     go_wp2_with (first
      | (go_at_call 20;refine (HHA.out).mono ?_;rintro e w' ⟨rfl,rfl⟩)
      | (at_builtin;refine wpList_append_int rfl _ _ 27 3 rfl Tryz.underlying27 Tryz.infoInt HST.out ol HOL.out rfl x rfl (by omega) ?_;intro b' c' w1 h4;have H4:=Lib.hid h4;clear h4))
     go_roundw
     case rel =>
      refine⟨j+1,out++[x],some b',c',by omega,by rw[List.length_append,HOL.out];simp;omega,by go_num,by rw[List.length_append,HOL.out];rfl,?_,HALL.out,H4.out⟩
      exact (HOUT.out.trans (if_neg (fun e=>by have:=hasB_iff.2 e;rw[HBB.out] at this;cases this)):onceOut [] (xs.take (j+1))=out++[x])
     case measure=>simp[intOf];omega
  ·obtain rfl:j=n:=by omega
   have hlen:=HR.out.len
   have hoo:out=onceL xs:=by rw[←HO.out,←hlen,List.take_length];rfl
   have hall:∀ x∈xs,litB x=true:=by
    have:=HL.out
    rwa [←hlen,List.take_length] at this
   have HOO:=Lib.hid hoo
   have HALL:=Lib.hid hall
   clear hlen hoo hall
   obtain⟨A2,hA2⟩:∃ A2:Option Addr,oa.map (fun b=>(⟨b,0,none⟩:Addr))=A2:=⟨_,rfl⟩
   have hrd:Rd wr A2 ol out:=by
    have:=St.rd HST.out (by rw[HOL.out];omega)
    rwa [hA2,HOL.out] at this
   have HRD:=Lib.hid hrd
   have HA2:=Lib.hid hA2
   unfold slv
   rw[hA2]
   clear hA2 hrd
   go_wp2
   go_loop [6] (fun v6=>∃ i:Nat,i≤ol∧v6=.int .i64 i∧Hid (∀ k,k<i→-gi out k∉out)) (fun v6=>ol-(intOf v6).toNat)
   case atStart=>exact⟨0,Nat.zero_le _,rfl,(fun k hk=>absurd hk (Nat.not_lt_zero k):∀ k,k<0→_)⟩
   case round =>
    obtain⟨i,hi,rfl,HN⟩:=hrel
    by_cases hil:i<ol
    ·have hcells:=HRD.out.cells (by omega)
     obtain⟨b',o',rfl,hc⟩:=hcells
     have d1:=hc i hil
     clear hc
     obtain⟨y,hy⟩:∃ y,gi out i=y:=⟨_,rfl⟩
     rw[hy] at d1
     have hyo:y∈out:=by rw[←hy];exact getL_mem (by rw[HOL.out];exact hil)
     have hyl:=litB_iff.1 (HALL.out y (onceL_mem.1 (HOO.out▸hyo)))
     obtain⟨_,hy2,hy3⟩:=hyl
     have hha:=has_any _ _ oc out (-y) wr HRD.out
     obtain⟨bb,hbb⟩:∃ bb,hasB out (-y)=bb:=⟨_,rfl⟩
     rw[hbb] at hha
     have HHA:=Lib.hid hha
     have HBB:=Lib.hid hbb
     have HY:=Lib.hid hy
     have HYO:=Lib.hid hyo
     clear hy hyo hha hbb
     cases bb with
     | true =>
      go_wp2_with (go_at_call 20;refine (HHA.out).mono ?_;rintro e w' ⟨rfl,rfl⟩)
      go_ret2
      have he:=onceE_both HALL.out (HOO.out▸HYO.out) (HOO.out▸hasB_iff.1 HBB.out)
      exact⟨fun h=>absurd (he.symm.trans h) (by decide),fun _=>⟨by rw[he];rfl,HST.out.below,HST.out.base,Sat.emp _ _⟩⟩
     | false =>
      go_wp2_with (go_at_call 20;refine (HHA.out).mono ?_;rintro e w' ⟨rfl,rfl⟩)
      go_round
      case rel =>
       refine⟨i+1,by omega,by go_num,(fun k hk=>?_:∀ k,k<i+1→_)⟩
       by_cases e:k=i
       ·rw[e,HY.out]
        intro hm
        have:=hasB_iff.2 hm
        rw[HBB.out] at this
        cases this
       ·exact HN.out k (by omega)
      case measure=>simp[intOf];omega
    ·obtain rfl:i=ol:=by omega
     go_wp2
     go_ret2
     have he:onceE xs=0:=onceE_none HALL.out (by
      rw[←HOO.out]
      intro x hx hm
      obtain⟨k,hk,rfl⟩:=mem_gi hx
      exact HN.out k (by rw[←HOL.out];exact hk) hm)
     refine⟨fun _=>⟨oa,oc,?_,?_⟩,fun h=>absurd he h⟩
     ·rw[←HOO.out,HOL.out,←HA2.out];rfl
     ·rw[←HOO.out];exact HST.out.conseq (star_emp _)
end Go.Proofs.YthbbmdnfkkffjaaGreat
namespace Go.Proofs.YthbbmdnfkkffjaaGreat
open Go.RowKit Go.Proofs.PlaitSep Go.Proofs.PlaitPure
def InV (v:Int) (c:List Int):Prop:=∀ x∈c,-v≤x∧x≤v
theorem InV.mono {v u:Int} {c:List Int} (h:InV v c) (hv:v≤u):InV u c:=fun x hx=>by have:=h x hx;omega
theorem InV.snoc {v x:Int} {c:List Int} (h:InV v c):InV (max (max v x) (-x)) (c++[x]):=fun y hy=>by
 rcases List.mem_append.1 hy with hy | hy
 ·have:=h y hy;omega
 ·rw[List.mem_singleton.1 hy];omega
theorem max3 (v x:Int):(if (if v<x then x else v)< -x then -x else if v<x then x else v)=max (max v x) (-x):=by
 by_cases h:v<x
 ·simp only[h,if_true];split <;> omega
 ·simp only[h,if_false];split <;> omega
set_option maxRecDepth 100000 in
set_option maxHeartbeats 2000000 in
theorem vars_any (A:Option Addr) (n cap:Nat) (xss:List (List Int)) (most:Int) (w:World) (hr:Rd2 w A n xss) (hm:0≤most) (hm2:most≤100000) :
  Calls Tryz.prog 40 #[.slice A n cap,.int .i64 most] w fun e w'=>∃ v,e=.returned (.int .i64 v)∧Drawn w w'∧0≤v∧(v≤most→∀ c∈xss,InV v c):=by
 have HR:=Lib.hid hr
 have hsm:=hr.small
 clear hr
 go_enter Tryz.func40,Tryz.ntmps40
 go_wp2
 go_loopw [5,6] (fun v5 v6 wr=>∃ (i:Nat) (v:Int),i≤n∧v6=.int .i64 i∧v5=.int .i64 v∧Hid (0≤v∧v≤most)∧Hid (Drawn w wr)∧Hid (∀ c∈xss.take i,InV v c)) (fun _ v6 _=>n-(intOf v6).toNat)
 case atStart=>exact⟨0,0,Nat.zero_le _,rfl,rfl,(⟨Int.le_refl _,hm⟩:(0:Int)≤0∧(0:Int)≤most),Drawn.refl w,(fun c hc=>(by rw[List.take_zero] at hc;cases hc):∀ c∈xss.take 0,InV 0 c)⟩
 case round =>
  obtain⟨i,v,hi,rfl,rfl,HV,HD,HI⟩:=hrel
  by_cases hin:i<n
  ·obtain⟨ab,ao,hA,hc⟩:=HR.out.cells (by omega)
   subst hA
   obtain⟨Aj,cj,d0,hrj⟩:=hc i hin
   have htk:xss.take (i+1)=xss.take i++[gl xss i]:=take_gl xss i (by rw[HR.out.len];exact hin)
   obtain⟨xs,hxs⟩:∃ xs,gl xss i=xs:=⟨_,rfl⟩
   obtain⟨ln,hln⟩:∃ ln,xs.length=ln:=⟨_,rfl⟩
   rw[hxs,hln] at d0 hrj
   rw[hxs] at htk
   have hls:=hrj.small
   have HTK:=Lib.hid htk
   have HRJ:=Lib.hid hrj
   have HLN:=Lib.hid hln
   have HD0:=Lib.hid (show ∀ V,Drawn w V→V.cell? ⟨ab,ao+i,none⟩=some (.slice Aj ln cj) from fun V hV=>by rw[←d0];unfold World.cell?;rw[hV.heap])
   have d1:=HD0.out _ HD.out
   have i0:(0:Int)≤(i:Int):=by omega
   have i1:(i:Int)<(n:Int):=by omega
   clear hc d0 htk hrj hxs hln
   go_wp2
   go_loopw [5,7] (fun v5 v7 wr=>∃ (k:Nat) (v:Int),k≤ln∧v7=.int .i64 k∧v5=.int .i64 v∧Hid (0≤v∧v≤most)∧Hid (Drawn w wr)∧Hid (∀ c∈xss.take i,InV v c)∧Hid (InV v (xs.take k))) (fun _ v7 _=>ln-(intOf v7).toNat)
   case atStart=>exact⟨0,v,Nat.zero_le _,rfl,rfl,HV.out,HD.out,HI.out,(fun x hx=>(by rw[List.take_zero] at hx;cases hx):InV v (xs.take 0))⟩
   case round =>
    obtain⟨k,v,hk,rfl,rfl,HV2,HD2,HI2,HK2⟩:=hrel
    have d1:=HD0.out _ HD2.out
    by_cases hkn:k<ln
    ·obtain⟨bx,ox,hA,hcx⟩:=(HRJ.out.drawn HD2.out).cells (by omega)
     subst hA
     have d2:=hcx k hkn
     have htk:=take_gi xs k (by rw[HLN.out];exact hkn)
     obtain⟨x,hx⟩:∃ x,gi xs k=x:=⟨_,rfl⟩
     rw[hx] at d2 htk
     have HTJ:=Lib.hid htk
     have k0:(0:Int)≤(k:Int):=by omega
     have k1:(k:Int)<(ln:Int):=by omega
     clear hcx htk hx
     have hv2:=HV2.out
     by_cases h1:most<x
     ·have e1:decide (most<x)=true:=by simpa using h1
      go_wp2
      go_ret
      exact⟨most+1,rfl,HD2.out,by omega,fun h=>by omega⟩
     ·have e1:decide (most<x)=false:=by simpa using h1
      by_cases h2:x< -most
      ·have e2:decide (x< -most)=true:=by simpa using h2
       go_wp2
       go_ret
       exact⟨most+1,rfl,HD2.out,by omega,fun h=>by omega⟩
      ·have e2:decide (x< -most)=false:=by simp;omega
       have HM:=Lib.hid (show 0≤max (max v x) (-x)∧max (max v x) (-x)≤most by omega)
       clear hv2
       go_wp2
       go_roundw
       case rel =>
        refine⟨k+1,max (max v x) (-x),by omega,by go_num,(by rw[max3]),HM.out,HD2.out,(fun c hc=>(HI2.out c hc).mono (by omega):∀ c∈xss.take i,InV (max (max v x) (-x)) c),(?_:InV (max (max v x) (-x)) (xs.take (k+1)))⟩
        rw[HTJ.out]
        exact HK2.out.snoc
       case measure=>simp[intOf];omega
    ·obtain rfl:k=ln:=by omega
     have hk2:=HK2.out
     rw[List.take_of_length_le (by rw[HLN.out];exact Nat.le_refl _)] at hk2
     have HK3:=Lib.hid hk2
     have HD3:=Lib.hid HD2.out
     clear hk2
     go_wp2
     go_roundw
     case rel =>
      refine⟨i+1,v,by omega,by go_num,rfl,HV2.out,HD3.out,(?_:∀ c∈xss.take (i+1),InV v c)⟩
      intro c hc
      rw[HTK.out] at hc
      rcases List.mem_append.1 hc with hc | hc
      ·exact HI2.out c hc
      ·rw[List.mem_singleton.1 hc];exact HK3.out
     case measure=>simp[intOf];omega
  ·obtain rfl:i=n:=by omega
   have hi2:=HI.out
   rw[List.take_of_length_le (by rw[HR.out.len];exact Nat.le_refl _)] at hi2
   have HI2:=Lib.hid hi2
   clear hi2
   go_wp2
   go_ret
   exact⟨v,rfl,HD.out,HV.out.1,fun _=>HI2.out⟩
end Go.Proofs.YthbbmdnfkkffjaaGreat
namespace Go.Proofs.YthbbmdnfkkffjaaGreat
open Go.RowKit Go.Proofs.PlaitSep Go.Proofs.PlaitSat
open Go.Proofs.PlaitPure hiding SM
abbrev Stp:=Int×List Int
def rows (l:List Stp):List (List Int):=l.map (·.2)
def gs (l:List Stp) (k:Nat):Stp:=l.getD k (0,[])
theorem gs_eq (l:List Stp) (k:Nat) (h:k<l.length):gs l k=l[k]:=by simp[gs,h]
structure RdS (w:World) (A:Option Addr) (n:Nat) (l:List Stp):Prop where
 len:l.length=n
 small:n≤140737488355328
 cells:0<n→∃ b o,A=some ⟨b,o,none⟩∧∀ j,j<n→w.cell? ⟨b,o+j*2,none⟩=some (.int .i64 (gs l j).1)∧∃ Aj cj,w.cell? ⟨b,o+j*2+1,none⟩=some (.slice Aj (gs l j).2.length cj)∧Rd w Aj (gs l j).2.length (gs l j).2
theorem RdS.grow {w w':World} {A:Option Addr} {n:Nat} {l:List Stp} (h:RdS w A n l) (hb:Below w.heap.size w w'):RdS w' A n l:=by
 refine⟨h.len,h.small,fun hn=>?_⟩
 obtain⟨b,o,e,hc⟩:=h.cells hn
 refine⟨b,o,e,fun j hj=>?_⟩
 obtain⟨h1,Aj,cj,h2,h3⟩:=hc j hj
 exact⟨(hb.cell (World.block_lt_of_cell? w _ h1)).trans h1,Aj,cj,(hb.cell (World.block_lt_of_cell? w _ h2)).trans h2,h3.grow hb⟩
def sumS (l:List Stp) (j:Nat):Nat:=((l.take j).map fun s=>s.2.length).sum
theorem sumS_succ (l:List Stp) {j:Nat} (h:j<l.length):sumS l (j+1)=sumS l j+(gs l j).2.length:=by
 unfold sumS
 rw[List.take_succ_eq_append_getElem h,List.map_append,List.sum_append,gs_eq _ _ h]
 simp
theorem sumS_mono (l:List Stp) {i j:Nat} (h:i≤j):sumS l i≤sumS l j:=by
 induction j with
 | zero =>
  have:i=0:=by omega
  subst this;exact Nat.le_refl _
 | succ j ih =>
  by_cases e:i=j+1
  ·rw[e];exact Nat.le_refl _
  ·have h1:=ih (by omega)
   by_cases hj:j<l.length
   ·rw[sumS_succ l hj];omega
   ·have:sumS l (j+1)=sumS l j:=by unfold sumS;rw[List.take_of_length_le (by omega),List.take_of_length_le (by omega)]
    omega
structure LightS (l:List Stp) (vars:Int):Prop where
 n:l.length≤120
 sum:l.length+sumS l l.length≤500
 vars:∀ s∈l,InV vars s.2
set_option maxRecDepth 100000 in
set_option maxHeartbeats 2000000 in
theorem light_any (A:Option Addr) (n cap:Nat) (l:List Stp) (vars:Int) (w:World) (hr:RdS w A n l) (hv:0≤vars) (hv2:vars≤100000) :
  Calls Tryz.prog 16 #[.slice A n cap,.int .i64 vars] w fun e w'=>∃ b,e=.returned (.bool b)∧Below w.heap.size w w'∧(b=true→LightS l vars):=by
 have HR:=Lib.hid hr
 have hsm:=hr.small
 clear hr
 go_enter Tryz.func16,Tryz.ntmps16
 go_wp2
 go_loopw [5,6] (fun v5 v6 wr=>∃ (j s:Nat),j≤n∧v6=.int .i64 j∧v5=.int .i64 s∧s≤140737488355328+140737488355328∧Hid (s=n+sumS l j)∧Hid (Drawn w wr)) (fun _ v6 _=>n-(intOf v6).toNat)
 case atStart=>exact⟨0,n,Nat.zero_le _,rfl,rfl,by omega,(rfl:n=n+sumS l 0),Drawn.refl w⟩
 case round =>
  obtain⟨j,s,hj,rfl,rfl,hsb,HS,HD⟩:=hrel
  by_cases hjn:j<n
  ·have e1:decide ((j:Int)<(n:Int))=true:=by simp;omega
   by_cases hs5:s≤500
   ·have e2:decide ((s:Int)≤500)=true:=by simp;omega
    obtain⟨ab,ao,rfl,hc⟩:=(HR.out).cells (by omega)
    obtain⟨d0,Aj,cj,d1,hrj⟩:=hc j hjn
    have d2:wr.cell? ⟨ab,ao+j*2+1,none⟩=some (.slice Aj (gs l j).2.length cj):=by rw[←d1];unfold World.cell?;rw[HD.out.heap]
    have hls:=hrj.small
    have hsn:=sumS_succ l (j:=j) (by rw[HR.out.len];exact hjn)
    obtain⟨ln,hln⟩:∃ ln,(gs l j).2.length=ln:=⟨_,rfl⟩
    rw[hln] at d2 hls hsn
    have HSN:=Lib.hid hsn
    have p0:(0:Int)≤(j:Int):=by omega
    have p1:(j:Int)<(n:Int):=by omega
    clear hc d0 d1 hrj hln hsn
    go_wp2
    go_roundw
    case rel=>exact⟨j+1,s+ln,by omega,by go_num,by go_num,by omega,(by have:=HS.out;have:=HSN.out;omega:s+ln=n+sumS l (j+1)),HD.out⟩
    case measure=>simp[intOf];omega
   ·have e2:decide ((s:Int)≤500)=false:=by simp;omega
    have e3:decide (500<(s:Int))=true:=by simp;omega
    have HD2:=Lib.hid (HD.out.below w.heap.size)
    go_wp2
    go_ret
    exact⟨false,rfl,HD2.out,fun k=>by cases k⟩
  ·obtain rfl:j=n:=by omega
   have e1:decide ((j:Int)<(j:Int))=false:=by simp
   have HB:=Lib.hid (HD.out.below w.heap.size)
   by_cases hs5:500<s
   ·have e3:decide (500<(s:Int))=true:=by simp;omega
    go_wp2
    go_ret
    exact⟨false,rfl,HB.out,fun k=>by cases k⟩
   ·have e3:decide (500<(s:Int))=false:=by simp;omega
    by_cases hn:120<j
    ·have e4:decide (120<(j:Int))=true:=by simp;omega
     go_wp2
     go_ret
     exact⟨false,rfl,HB.out,fun k=>by cases k⟩
    ·have e4:decide (120<(j:Int))=false:=by simp;omega
     have hsum:j+sumS l j≤500:=by have:=HS.out;omega
     have HSUM:=Lib.hid hsum
     have H0:=Lib.hid ((St.none w 27).drawn HD.out)
     clear hsum hsb
     go_wp2
     go_loopw [7,8] (fun v7 v8 wq=>∃ (k:Nat) (a:Option Nat) (c:Nat) (V:List Value),k≤j∧v8=.int .i64 k∧v7=.slice (a.map fun b=>⟨b,0,none⟩) k c∧Hid (V.length=k)∧Hid (RowsV w V ((rows l).take k))∧Hid (St w.heap.size w wq (star (sl a k c 27 1 V) emp))) (fun _ v8 _=>j-(intOf v8).toNat)
     case atStart=>exact⟨0,none,0,[],Nat.zero_le _,rfl,rfl,(rfl:([]:List Value).length=0),RowsV.nil w,H0.out⟩
     case round =>
      clear H0 HB HD
      obtain⟨k,a,c,V,hk,rfl,rfl,HVL,HV,HST⟩:=hrel
      have hrl:(rows l).length=j:=by unfold rows;rw[List.length_map];exact HR.out.len
      by_cases hkj:k<j
      ·have e5:decide ((k:Int)<(j:Int))=true:=by simp;omega
       obtain⟨ab,ao,rfl,hc⟩:=(HR.out).cells (by omega)
       obtain⟨d0,Aj,cj,d1,hrj⟩:=hc k hkj
       have d2:=(HST.out.below.cell (World.block_lt_of_cell? w _ d1)).trans d1
       have hgl:gl (rows l) k=(gs l k).2:=by
        unfold gl rows gs
        rw[List.getD_eq_getElem?_getD,List.getD_eq_getElem?_getD,List.getElem?_map,List.getElem?_eq_getElem (by rw[HR.out.len];exact hkj)];rfl
       have htk:(rows l).take (k+1)=(rows l).take k++[(gs l k).2]:=by rw[take_gl _ _ (by rw[hrl];exact hkj),hgl]
       obtain⟨s,hs⟩:∃ s,(gs l k).2=s:=⟨_,rfl⟩
       rw[hs] at d2 hrj htk
       obtain⟨ln,hln⟩:∃ ln,s.length=ln:=⟨_,rfl⟩
       have hvn:RowsV w (V++[.slice Aj ln cj]) ((rows l).take (k+1)):=by rw[htk];exact HV.out.snoc hrj cj ln hln
       rw[hln] at d2
       have HVN:=Lib.hid hvn
       have p0:(0:Int)≤(k:Int):=by omega
       have p1:(k:Int)<(j:Int):=by omega
       clear hc d0 d1 hrj hs htk hgl hln hvn hrl
       go_wp2_with (at_builtin;refine wpList_append1 rfl _ _ 37 27 (.slice none 0 0) 24 rfl Tryz.underlying37 Tryz.infoRow rfl HST.out rfl (.slice Aj ln cj) rfl rfl (by omega) (by simp only[maxLen];omega) ?_;intro b' c' w4 h4;have H4:=Lib.hid h4;clear h4)
       go_roundw
       case rel=>exact⟨k+1,some b',c',V++[Value.slice Aj ln cj],by omega,by go_num,rfl,Lib.hid (by rw[List.length_append,HVL.out];rfl),HVN,H4⟩
       case measure=>simp[intOf];omega
      ·obtain rfl:k=j:=by omega
       have e5:decide ((k:Int)<(k:Int))=false:=by simp
       have hv2':=HV.out.grow HST.out.below
       rw[List.take_of_length_le (by omega)] at hv2'
       have hrd:=hv2'.rd2 HST.out (by omega)
       have HVA:=Lib.hid (vars_any _ k c (rows l) vars wr hrd hv hv2)
       have HB:=Lib.hid HST.out.below
       have HSZ:=Lib.hid HST.out.base
       obtain⟨A7,hA7⟩:∃ A,(a.map fun b=>(⟨b,0,none⟩:Addr))=A:=⟨_,rfl⟩
       rw[hA7] at HVA ⊢
       clear hv2' hrd hA7 hrl
       go_wp2_with fail
       refine HVA.out.mono ?_
       rintro e w5 ⟨v,rfl,hd,_,hle⟩
       have HB5:=Lib.hid (HB.out.trans (hd.below _))
       have HLE:=Lib.hid hle
       clear hd hle HVA
       go_wp2
       go_ret
       refine⟨decide (v≤vars),rfl,HB5.out,fun kk=>⟨by rw[HR.out.len];omega,by rw[HR.out.len];exact HSUM.out,fun s hs=>?_⟩⟩
       have h1:=HLE.out (by simpa using kk) s.2 (by unfold rows;exact List.mem_map_of_mem hs)
       exact h1.mono (by simpa using kk)
end Go.Proofs.YthbbmdnfkkffjaaGreat

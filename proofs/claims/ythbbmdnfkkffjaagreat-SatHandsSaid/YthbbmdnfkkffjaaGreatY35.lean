/-
  Parts of the proof, joined by program: ajY, Once, Sat1, Bytes, ByteM, vk.
-/
import Derived.Test.YthbbmdnfkkffjaaGreatY34
import Derived.Test.YthbbmdnfkkffjaaGreatY31
import Derived.Test.YthbbmdnfkkffjaaGreatY02
import Derived.Test.YthbbmdnfkkffjaaGreatY01
import Derived.Test.YthbbmdnfkkffjaaGreatY30
import Derived.Test.YthbbmdnfkkffjaaGreatY07
import Derived.Deep.Slices
import Derived.Lib.Hide
set_option maxHeartbeats 8000000
set_option maxRecDepth 100000
namespace Go.Proofs.YthbbmdnfkkffjaaGreat
open Go.RowKit Go.Proofs.aC Go.Proofs.au
def SM.new (m:Int):SM:=⟨(min (max m 1) 262144).toNat,[],[]⟩
theorem SM.TV (m:Int):(SM.new m).Inv:=by
 refine⟨?_,Nat.zero_le _,fun i hi=>?_,Nat.zero_le _,fun i r=>?_,fun i=>?_⟩
 ·show (min (max m 1) 262144).toNat≤262144;omega
 ·exact absurd hi (by simp[SM.new])
 ·constructor
  ·intro h;have e:(SM.new m).jm i=[]:=rfl;rw[e] at h;cases h
  ·rintro⟨h,_⟩
   exact absurd h (by simp[SM.new])
 ·exact List.nodup_nil
section
variable {B:Nat} {w0 w:World} {p:Nat} {L:sK} {S:SM} {F:HP}
theorem bC.abX {wb bg k:Nat} {lits:List Int} {F:HP} (h:bC B w0 w p L S F) {ref:Nat} (hr:ref<S.cls.length) (hb:L.wv=some wb) (hbg:S.begin ref=bg) (hl:(S.cl ref).lits=lits) (hk:lits.length=k) :
  w.cell? ⟨wb,bg,none⟩=some (.int .i64 ((S.cl ref).p:Nat))∧w.cell? ⟨wb,bg+1,none⟩=some (.int .i64 ((S.cl ref).q:Nat))∧∀ j,j<k→w.cell? ⟨wb,bg+(2+j),none⟩=some (.int .i64 (gi lits j)):=by
 have hh:=h.Zd;rw[hb] at hh;have hle:=S.Gd hr;rw[hbg,hl,hk] at hle
 have key:∀ j,j<k+2→w.cell? ⟨wb,bg+j,none⟩=some (.int .i64 (gi (S.cl ref).words j)):=by
  intro j hj;rw[St.aW (h:=hh) (bg+j) (by rw[dL];omega),iZ _ _ (by omega),←hbg,S.Zc hr (by rw[hl,hk];exact hj)]
 refine⟨key 0 (by omega),key 1 (by omega),fun j hj=>?_⟩;have:=key (2+j) (by omega);rw[show gi (S.cl ref).words (2+j)=gi lits j from by rw[←hl,Nat.add_comm];rfl] at this;exact this
end
theorem Zp (w:World) (m k:Int) (h:k=((SM.new m).most:Int)):bC w.heap.size w (w.alloc (.cells #[.int .i64 k,.slice none 0 0,.slice none 0 0,.slice none 0 0,.slice none 0 0] 116)) w.heap.size ⟨none,0,none,0,none,0,none,0,[]⟩ (SM.new m) emp:=by
 subst h;refine⟨((St.start w).iC _ _).aB ?_,rfl⟩;unfold iY;have e1:(SM.new m).words=[]:=rfl;have e2:(SM.new m).begins=[]:=rfl;have e3:(SM.new m).short=[]:=rfl
 have e4:sl none 0 0 27 1 (outer [])=emp:=by
  funext h
  apply propext;exact⟨fun k=>k.2.2.2,fun k=>⟨rfl,rfl,rfl,k⟩⟩
 rw[e1,e2,e3];simp only[Lb,List.length_nil,e4,aQ,inner,List.map_nil,j6];rfl
theorem abY (m:Int) (w:World) :
  Calls Tryz.prog 62 #[.int .i64 m] w fun e w'=>∃ p L,e=.returned (.pointer (some ⟨p,0,none⟩))∧bC w.heap.size w w' p L (SM.new m) emp:=by
 go_enter Tryz.func62,Tryz.ntmps62
 go_wp2
 all_goals
  go_ret
  first
   | refine⟨w.heap.size,rfl,⟨none,0,none,0,none,0,none,0,[]⟩,Zp w m _ ?_⟩
   | refine⟨w.heap.size,⟨none,0,none,0,none,0,none,0,[]⟩,rfl,Zp w m _ ?_⟩
  show _=(((min (max m 1) 262144).toNat:Nat):Int);omega
section
variable {B:Nat} {w0 w:World} {p:Nat} {L:sK} {S:SM} {F:HP}
theorem St.gK (w:World) (e:TypeId):St w.heap.size w (w.alloc (.cells #[] e)) (star (sl (some w.heap.size) 0 0 e 1 []) emp):=by
 have h1:=(St.start w).iC #[] e;exact⟨h1.below,h1.base,h1.sat.pO rfl (Nat.le_refl _) (Nat.zero_le _) (by simp) rfl⟩
theorem JM (b o n c:Nat) (xs:List Int) (w:World) (hr:Rd w (some ⟨b,o,none⟩) n xs) (hn:n≤1000000) :
  Calls Tryz.prog 66 #[.slice (some ⟨b,o,none⟩) n c] w fun e w'=>∃ a c',e=.returned (iB a xs.length c')∧St w.heap.size w w' (bO 3 a c' xs):=by
 have HR:=zH hr;have q:∀ (w:World) (a:Option Addr) (n c n' c':Nat),(binOp .eql 27 (.slice a n c) (.slice none n' c')).run Tryz.prog w=.ok (.bool a.isNone) w:=fun w a n c n' c'=>Lib.run_eql_slice_nil w _ _ a n c n' c' Tryz.underlying27;have HE:=zH (St.gK w 3);clear hr
 go_enter Tryz.func66,Tryz.ntmps66
 go_wp2_with (at_builtin;refine gG rfl _ _ 27 3 rfl Tryz.underlying27 Tryz.gQ (show St w.heap.size w _ (star (bO 3 (some w.heap.size) 0 []) emp) from HE.out) 0 rfl _ n c xs (HR.out.grow HE.out.below) rfl rfl (by omega) ?_;intro a' c' w1 h1)
 go_ret
 refine⟨a',c',?_,?_⟩
 ·rw[HR.out.len];simp[iB]
 ·exact (h1.aB (aQ _))
def yR (B:Nat) (w0:World) (p:Nat) (L:sK) (S:SM) (F:HP) (ref:Int) (e:Ending) (w':World):Prop :=
 (0≤ref∧ref<S.cls.length→∃ a c,e=.returned (.tuple #[iB a (S.cl ref.toNat).lits.length c,.int .i64 0])∧bC B w0 w' p L S (star (bO 3 a c (S.cl ref.toNat).lits) F)) ∧
 (¬ (0≤ref∧ref<S.cls.length)→e=.returned (.tuple #[.slice none 0 0,.int .i64 113])∧w=w')
theorem RJ (ref:Int) (h:bC B w0 w p L S F) (hS:S.Inv) :
  Calls Tryz.prog 64 #[.pointer (some ⟨p,0,none⟩),.int .i64 ref] w (yR (w:=w) B w0 p L S F ref):=by
 have c2:=h.qJ.aG 2;obtain⟨k,hk⟩:∃ k,S.cls.length=k:=⟨_,rfl⟩;simp only[storeCells,iB,hk] at c2;have H:=zH h;have HS:=zH hS;have HK:=zH hk;clear h hS hk
 by_cases h0:ref<0
 ·go_enter Tryz.func64,Tryz.ntmps64
  go_wp2
  go_ret2
  exact⟨fun hh=>absurd hh.1 (by omega),fun _=>⟨rfl,rfl⟩⟩
 ·by_cases h1:(k:Int)≤ref
  ·go_enter Tryz.func64,Tryz.ntmps64
   go_wp2
   go_ret2
   exact⟨fun hh=>absurd hh.2 (by rw[HK.out];omega),fun _=>⟨rfl,rfl⟩⟩
  ·obtain⟨i,rfl⟩:∃ i:Nat,ref=(i:Int):=⟨ref.toNat,by omega⟩;have hik:i<S.cls.length:=by have:=HK.out;omega
   have hw:S.words.length≤262144:=Nat.le_trans HS.out.words HS.out.most;have hcl:=Ry i H.out hik hw;obtain⟨bg,hbg⟩:∃ bg,S.begin i=bg:=⟨_,rfl⟩;obtain⟨ln,hln⟩:∃ ln,(S.cl i).lits.length=ln:=⟨_,rfl⟩;have hle:=S.Gd hik;rw[hbg,hln] at hcl hle
   have hrd:∀ (w':World),bJ w w'→∀ wb,L.wv=some wb→Rd w' (some ⟨wb,bg+2,none⟩) ln (S.cl i).lits:=fun w' hd wb hwb=>⟨hln,by omega,fun _=>⟨wb,bg+2,rfl,fun j hj=>by
    have:=((H.out.drawn hd).abX hik hwb hbg rfl rfl).2.2 j (by rw[hln];exact hj);rw[show bg+(2+j)=bg+2+j by omega] at this
    exact this⟩⟩
   have jW:=zH hcl;have Gs:=zH hrd;have fP:=zH hln;clear hcl hrd hbg hln hik
   by_cases hz:ln=0
   ·subst hz;have hnil:(S.cl i).lits=[]:=List.eq_nil_of_length_eq_zero fP.out;have amo:=zH hnil;clear hnil
    go_enter Tryz.func64,Tryz.ntmps64
    go_wp2_with (first
     | (go_at_call 84;refine (jW.out).mono ?_;rintro e w1 ⟨⟨wb,hwb,rfl⟩,hD⟩;have h1':=H.out.drawn hD;have H1:=zH h1';clear h1')
     | (go_at_call 66;refine (JM wb bg 0 0 [] w1 ⟨rfl,by omega,fun h=>absurd h (by omega)⟩ (by omega)).mono ?_;rintro e w2 ⟨a,c',rfl,h2⟩))
    go_ret2
    unfold yR;rw[Int.toNat_natCast,amo.out];refine⟨fun _=>⟨a,c',rfl,?_⟩,fun hh=>absurd ⟨by omega,by have:=HK.out;omega⟩ hh⟩;exact⟨(H1.out.st.nest h2).aB (by ac_rfl),H1.out.ws⟩
   ·go_enter Tryz.func64,Tryz.ntmps64
    go_wp2_with (first
     | (go_at_call 84;refine (jW.out).mono ?_;rintro e w1 ⟨⟨wb,hwb,rfl⟩,hD⟩;have hr1:=Gs.out _ hD _ hwb;have HR1:=zH hr1;have h1':=H.out.drawn hD;have H1:=zH h1';clear hr1 h1')
     | (go_at_call 66;refine (JM _ _ _ _ _ _ HR1.out (by omega)).mono ?_;rintro e w2 ⟨a,c',rfl,h2⟩))
    go_ret2
    unfold yR;rw[Int.toNat_natCast];refine⟨fun _=>⟨a,c',rfl,?_⟩,fun hh=>absurd ⟨by omega,by have:=HK.out;omega⟩ hh⟩;exact⟨(H1.out.st.nest h2).aB (by ac_rfl),H1.out.ws⟩
end
theorem Gt (xs:List Int):∀ out:List Int,(dR out xs).length≤out.length+xs.length:=by
 induction xs with
 | nil=>intro out;simp[dR]
 | cons x r ih =>
  intro out;have h1:=ih (if x∈out then out else out++[x])
  have h2:(if x∈out then out else out++[x]).length≤out.length+1:=by split <;> simp
  have e:dR out (x :: r)=dR (if x∈out then out else out++[x]) r:=rfl
  rw[e,List.length_cons];omega
theorem RL (l:List Int):((SM.new 262144).yQ l).cls.length=1∧(((SM.new 262144).yQ l).cl 0).lits=l:=by
 unfold SM.yQ
 split
 ·exact⟨rfl,rfl⟩
 ·exact⟨rfl,rfl⟩
theorem VD (A:Option Addr) (n c:Nat) (xs:List Int) (w:World) (hr:Rd w A n xs) (hn:n≤200000) :
  Calls Tryz.prog 42 #[.slice A n c] w (vg w xs):=by
 have hl:(bQ xs).length≤200000:=by have h1:=Gt xs [];have h2:=hr.len;show (dR [] xs).length≤_;simp at h1;omega
 have HR:=zH hr;have HL:=zH hl;clear hr hl
 go_enter Tryz.func42,Tryz.ntmps42
 go_wp2_with fail
 refine (abY 262144 w).mono ?_
 rintro e w1 ⟨p,L,rfl,h1⟩
 have hinv:=SM.TV 262144;have HA:=zH (abW A n c xs h1 hinv (HR.out.grow h1.st.below) (by omega));obtain⟨R,hR⟩:∃ R,Dh (SM.new 262144) xs=R:=⟨_,rfl⟩;rw[hR] at HA;have HRR:=zH hR;clear h1 hinv hR
 go_wp2_with fail
 refine HA.out.mono ?_
 rintro e w2 ⟨rfl,L2,h2⟩
 have H2:=zH h2;clear h2 HA
 by_cases h0:dx xs=0
 ·have hR:R=((SM.new 262144).yQ (bQ xs),0,0):=by
   rw[←HRR.out];unfold Dh;rw[if_neg (by simpa using h0),if_neg (by have:=HL.out;show ¬ (262144:Nat)<0+2+_;omega)];rfl
  have hinv:R.1.Inv:=by rw[hR];exact (SM.TV 262144).yQ h0 (by have:=HL.out;show 0+2+_≤262144;omega)
  have hcl:R.1.cls.length=1∧(R.1.cl 0).lits=bQ xs:=by rw[hR];exact RL _
  have e2:R.2.1=0:=by rw[hR]
  have e3:R.2.2=0:=by rw[hR]
  rw[e2,e3];have HC:=zH (RJ 0 H2.out hinv);have jW:=zH hcl;have H0:=zH h0;have hw1:=H2.out.st.below;clear hR hinv hcl e2 e3 h0
  go_wp2_with fail
  refine HC.out.mono ?_
  rintro e w3 hp
  obtain⟨a,c',he,h3⟩:=hp.1 ⟨by omega,by rw[jW.out.1];omega⟩;rw[show (0:Int).toNat=0 from rfl,jW.out.2] at he h3;subst he;have H3:=zH h3;clear h3 hp HC
  go_wp2
  go_ret2
  refine⟨fun _=>⟨a,c',rfl,?_⟩,fun h=>absurd H0.out h⟩;have h9:=H3.out.st.wH;rw[aQ] at h9;exact h9
 ·have hR:R.2=(0,dx xs):=by
   rw[←HRR.out];unfold Dh;rw[if_pos h0]
  have e3:R.2.2=dx xs:=by rw[hR]
  obtain⟨er,her⟩:∃ e,dx xs=e:=⟨_,rfl⟩;rw[her] at h0 e3;have e4:decide (er=0)=false:=by simpa using h0
  rw[e3];have Zo:=zH her;clear hR e3 her
  go_wp2
  go_ret2
  refine⟨fun h=>absurd (Zo.out.symm.trans h) h0,fun _=>⟨by rw[Zo.out];rfl,?_⟩⟩;exact⟨H2.out.st.below,H2.out.st.base,Sat.emp _ _⟩
end Go.Proofs.YthbbmdnfkkffjaaGreat
namespace Go.Proofs.YthbbmdnfkkffjaaGreat
open Go.RowKit Go.Proofs.aC Go.Proofs.aA
open Go.Proofs.au hiding SM
def bL (B:Nat) (w0 w:World) (q:Nat) (S:SM) (F:HP):Prop:=∃ p M,At B w0 w p M (star (pt q 67 [.pointer (some ⟨p,0,none⟩)]) F)∧M.sv=S
def fU (S:SM) (xs:List Int):SM×Int :=
 if dx xs=0 then (if (S.add (bQ xs)).2 then ((S.add (bQ xs)).1,0) else ((S.add (bQ xs)).1,111)) else (S,dx xs)
def bK (S:SM) (xs:List Int):SM×Int×Int:=if xs.all fC then S.solve xs else (S,0,130)
section
variable {B:Nat} {w0 w:World} {q:Nat} {S:SM} {F:HP}
theorem bL.c {p:Nat} {M:MM} (h:At B w0 w p M (star (pt q 67 [.pointer (some ⟨p,0,none⟩)]) F)):w.cell? ⟨q,0,none⟩=some (.pointer (some ⟨p,0,none⟩)):=(h.cu 0).1
theorem bL.nest {w':World} {P:HP} (h:bL B w0 w q S F) (k:St w.heap.size w w' P):bL B w0 w' q S (star P F):=by
 obtain⟨p,M,h1,h2⟩:=h;exact⟨p,M,(h1.nest k).frame (by ac_rfl),h2⟩
theorem bL.drop {P:HP} (h:bL B w0 w q S (star P F)):bL B w0 w q S F:=by
 obtain⟨p,M,h1,h2⟩:=h;exact⟨p,M,(h1.frame (show _=star P (star (pt q 67 [.pointer (some ⟨p,0,none⟩)]) F) by ac_rfl)).iL,h2⟩
theorem bL.drawn {w':World} (h:bL B w0 w q S F) (d:bJ w w'):bL B w0 w' q S F:=by
 obtain⟨p,M,h1,h2⟩:=h;exact⟨p,M,h1.drawn d,h2⟩
theorem fM.own (t:TypeId) (a:Option Nat) (c:Nat) (xs:List Int) (F:HP) (hs:xs.length≤1000000):fM B w0 (star (bO t a c xs) F) (a.map fun b=>⟨b,0,none⟩) xs.length xs:=fun w P k =>
 St.rd (k.aB (show _=star (bO t a c xs) (star P F) by ac_rfl)) (by omega)
theorem lC (a b:Int) (w:World) :
  Calls Tryz.prog 17 #[.int .i64 a,.int .i64 b] w fun e w'=>∃ q,e=.returned (.pointer (some ⟨q,0,none⟩))∧bL w.heap.size w w' q (Go.Proofs.aA.SM.new a b) emp:=by
 go_enter Tryz.func17,Tryz.ntmps17
 go_wp2_with fail
 refine (Y2 a b w).mono ?_
 rintro e w1 ⟨p,M,rfl,h1,h2⟩
 have H:=zH (show bL w.heap.size w (w1.alloc (Obj.cells #[.pointer (some ⟨p,0,none⟩)] 67)) w1.heap.size (Go.Proofs.aA.SM.new a b) emp from⟨p,M,h1.box _ _,h2⟩);clear h1 h2
 go_wp2
 go_ret
 exact⟨w1.heap.size,rfl,H.out⟩
theorem lD (A:Option Addr) (n c:Nat) (xs:List Int) (h:bL B w0 w q S F) (hr:Rd w A n xs) (hn:n≤200000) (hok:dx xs=0→Rw S (bQ xs)) :
  Calls Tryz.prog 18 #[.pointer (some ⟨q,0,none⟩),.slice A n c] w fun e w'=>e=.returned (.int .i64 (fU S xs).2)∧bL B w0 w' q (fU S xs).1 F:=by
 have HO:=zH (VD A n c xs w hr hn);have H:=zH h;have HK:=zH hok;have hl:(bQ xs).length≤200000:=by have h1:=Gt xs [];have h2:=hr.len;show (dR [] xs).length≤_;simp at h1;omega
 have HL:=zH hl;clear h hok hr hl
 go_enter Tryz.func18,Tryz.ntmps18
 go_wp2_with fail
 refine HO.out.mono ?_
 rintro e w1 hp
 by_cases h0:dx xs=0
 ·obtain⟨a,c',he,h1⟩:=hp.1 h0;subst he;obtain⟨p,M,h2,h3⟩:=H.out.nest h1;have h4:=h2.frame (show _=star (bO 3 a c' (bQ xs)) (star (pt q 67 [.pointer (some ⟨p,0,none⟩)]) F) by ac_rfl);have k0:w1.cell? ⟨q,0,none⟩=some (.pointer (some ⟨p,0,none⟩)):=bL.c h2;obtain⟨ln,hln⟩:∃ n,(bQ xs).length=n:=⟨_,rfl⟩;have hst:fM B w0 (star (bO 3 a c' (bQ xs)) (star (pt q 67 [.pointer (some ⟨p,0,none⟩)]) F)) (a.map fun b=>⟨b,0,none⟩) ln (bQ xs):=by rw[←hln];exact fM.own _ _ _ _ _ (by have:=HL.out;omega)
  have hs:=Y6 _ ln c' (bQ xs) h4 hst (by rw[h3];exact HK.out h0);rw[h3] at hs;have HS:=zH hs;have H0:=zH h0;have hsa:fU S xs=if (S.add (bQ xs)).2 then ((S.add (bQ xs)).1,0) else ((S.add (bQ xs)).1,111):=by unfold fU;rw[if_pos h0]
  obtain⟨R,hR⟩:∃ R,S.add (bQ xs)=R:=⟨_,rfl⟩;rw[hR] at hsa HS;obtain⟨rb,hrb⟩:∃ b,R.2=b:=⟨_,rfl⟩;rw[hrb] at hsa HS;have HSA:=zH hsa;unfold iB;rw[hln];clear h1 h2 h3 h4 hst hs hsa hR hrb hp h0 HO hln
  go_wp2_with fail
  refine HS.out.mono ?_
  rintro e w2 ⟨rfl,M2,h5,h6⟩
  have HF:=zH (show bL B w0 w2 q R.1 F from⟨p,M2,h5.iL,h6⟩);clear h5 h6 HS
  cases rb with
  | true =>
   go_wp2
   go_ret
   exact⟨by rw[HSA.out];rfl,by rw[HSA.out];exact HF.out⟩
  | false =>
   go_wp2
   go_ret
   exact⟨by rw[HSA.out];rfl,by rw[HSA.out];exact HF.out⟩
 ·obtain⟨he,h1⟩:=hp.2 h0;subst he;have h2:=(H.out.nest h1).drop;have hsa:fU S xs=(S,dx xs):=by unfold fU;rw[if_neg h0]
  obtain⟨er,her⟩:∃ e,dx xs=e:=⟨_,rfl⟩;rw[her] at hsa h0 ⊢;have e4:decide (er=0)=false:=by simpa using h0
  have HSA:=zH hsa;have H2:=zH h2;clear h1 h2 hsa her hp HO
  go_wp2
  go_ret
  exact⟨by rw[HSA.out];rfl,by rw[HSA.out];exact H2.out⟩
theorem jH (A:Option Addr) (na ca:Nat) (xs:List Int) (h:bL B w0 w q S F) (hst:fM B w0 F A na xs) (hok:xs.all fC=true→BI S xs) :
  Calls Tryz.prog 19 #[.pointer (some ⟨q,0,none⟩),.slice A na ca] w fun e w'=>e=.returned (.tuple #[.int .i64 (bK S xs).2.1,.int .i64 (bK S xs).2.2])∧bL B w0 w' q (bK S xs).1 F:=by
 obtain⟨p,M,h1,h2⟩:=h;have hna:xs.length=na:=(At.rd hst h1).len;have hnb:na≤140737488355328:=(At.rd hst h1).small;have H:=zH h1;have HS:=zH h2;have HST:=zH hst;have TD:=zH hna;have fA:=zH hok;clear h1 h2 hst hna hok
 go_enter Tryz.func19,Tryz.ntmps19
 go_wp2
 go_step3
 go_wp2
 go_step3
 go_wp2
 go_loopg [10] na (fun g s10 wr=>∃ (k:Nat),s10=.int .i64 k∧k≤na∧Hid (g=na-k)∧Hid (At B w0 wr p M (star (pt q 67 [.pointer (some ⟨p,0,none⟩)]) F))∧Hid (∀ x∈xs.take k,fC x=true))
 case atStart=>exact⟨0,rfl,Nat.zero_le _,rfl,H.out,zH (by simp)⟩
 case round =>
  obtain⟨k,rfl,hkn,hg,H1,HL⟩:=hrel
  by_cases hkl:k<na
  ·have e1:decide ((k:Int)<(na:Int))=true:=by simp;omega
   obtain⟨b,o,rfl,hc⟩:=(At.rd HST.out H1.out).cells (by omega);obtain⟨a,ha⟩:∃ a,gi xs k=a:=⟨_,rfl⟩;have k3:=hc k hkl;rw[ha] at k3;have hkx:k<xs.length:=by rw[TD.out];exact hkl
   have htk:xs.take (k+1)=xs.take k++[a]:=by rw[List.take_succ_eq_append_getElem hkx,←dh _ _ hkx,ha]
   have Qa:a∈xs:=by rw[←ha,dh _ _ hkx];exact List.getElem_mem hkx
   have qH:=zH htk;have HAM:=zH Qa;have p0:(0:Int)≤(k:Int):=by omega
   have p1:(k:Int)<(na:Int):=by omega
   clear hc ha hkx htk Qa
   by_cases hb:fC a=true
   ·obtain⟨b1,b2,b3⟩:=bD.1 hb;have e2:decide (a=0)=false:=by simpa using b1
    have e3:decide ((-65536:Int)≤a)=true:=by simpa using b2
    have e4:decide (a≤(65536:Int))=true:=by simpa using b3
    have HB:=zH hb;clear hb
    go_wp2
    try (go_step3;go_wp2)
    go_roundg (na-(k+1))
    case measure=>have:=hg.out;omega
    case rel=>exact⟨k+1,by go_num,by omega,rfl,H1.out,zH (fun x hx=>by
     rw[qH.out] at hx;rcases List.mem_append.1 hx with h1 | h1
     ·exact HL.out x h1
     ·simp at h1;rw[h1];exact HB.out)⟩
   ·have hall:¬ xs.all fC=true:=fun h=>hb (List.all_eq_true.1 h a HAM.out);have QN:=zH (show bK S xs=(S,0,130) by unfold bK;rw[if_neg hall])
    have hnb:a=0∨¬ (-65536:Int)≤a∨¬ a≤65536:=by
     by_cases h0:a=0
     ·exact .inl h0
     ·by_cases h1:(-65536:Int)≤a
      ·by_cases h2:a≤65536
       ·exact absurd (bD.2 ⟨h0,h1,h2⟩) hb
       ·exact .inr (.inr h2)
      ·exact .inr (.inl h1)
    clear hall hb;rcases hnb with h0 | h0 | h0
    ·have e2:decide (a=0)=true:=by simpa using h0
     go_wp2
     try rw[Exit.noGoto_ret]
     go_ret2
     exact⟨by rw[QN.out];rfl,by rw[QN.out];exact⟨p,M,H1.out,HS.out⟩⟩
    ·have e2:decide (a=0)=false:=by simp;omega
     have e3:decide ((-65536:Int)≤a)=false:=by simpa using h0
     go_wp2
     try rw[Exit.noGoto_ret]
     go_ret2
     exact⟨by rw[QN.out];rfl,by rw[QN.out];exact⟨p,M,H1.out,HS.out⟩⟩
    ·have e2:decide (a=0)=false:=by simp;omega
     have e3:decide ((-65536:Int)≤a)=true:=by simp;omega
     have e4:decide (a≤(65536:Int))=false:=by simpa using h0
     go_wp2
     try rw[Exit.noGoto_ret]
     go_ret2
     exact⟨by rw[QN.out];rfl,by rw[QN.out];exact⟨p,M,H1.out,HS.out⟩⟩
  ·obtain rfl:k=na:=by omega
   have e1:decide ((k:Int)<(k:Int))=false:=by simp
   have hall:xs.all fC=true:=List.all_eq_true.2 (fun x hx=>HL.out x (by rw[List.take_of_length_le (by rw[TD.out];exact Nat.le_refl _)];exact hx));have QN:=zH (show bK S xs=S.solve xs by unfold bK;rw[if_pos hall]);have hsv:=Vh A k ca xs H1.out (fM.more HST.out _) (by rw[HS.out];exact fA.out hall);rw[HS.out] at hsv;have FB:=zH hsv;have k0:=bL.c H1.out;clear hall hsv hg
   go_wp2_with fail
   refine FB.out.mono ?_
   rintro e w2 ⟨rfl,M2,h2,h3⟩
   have HF:=zH (show bL B w0 w2 q (S.solve xs).1 F from⟨p,M2,h2,h3⟩);clear h2 h3 FB k0
   go_wp2
   try rw[Exit.noGoto_ret]
   go_ret2
   exact⟨by rw[QN.out];rfl,by rw[QN.out];exact HF.out⟩
theorem Lg (v:Int) (h:bL B w0 w q S F) (hl:S.model.length≤1000000) :
  Calls Tryz.prog 21 #[.pointer (some ⟨q,0,none⟩),.int .i64 v] w fun e w'=>e=.returned (.bool (decide (0<v)&&decide (v<S.model.length)&&gB S.model v.toNat))∧bJ w w':=by
 obtain⟨p,M,h1,h2⟩:=h;have hv:=Rq v h1 (by rw[h2];exact hl);rw[h2] at hv;have k0:=bL.c h1;have HV:=zH hv;clear h1 h2 hv hl
 go_enter Tryz.func21,Tryz.ntmps21
 go_wp2_with fail
 refine HV.out.mono ?_
 rintro e w2 ⟨rfl,hd⟩
 have HD:=zH hd;clear hd HV
 go_wp2
 go_ret
 exact⟨rfl,HD.out⟩
theorem dV (h:bL B w0 w q S F) :
  Calls Tryz.prog 37 #[.pointer (some ⟨q,0,none⟩)] w fun e w'=>e=.returned (.int .i64 (S.words:Nat))∧w=w':=by
 obtain⟨p,M,h1,h2⟩:=h;have k0:=bL.c h1;have hw:=Ra h1;rw[show M.words=S.words from congrArg Go.Proofs.aA.SM.words h2] at hw;have HW:=zH hw;clear h1 h2 hw
 go_enter Tryz.func37,Tryz.ntmps37
 go_wp2_with fail
 refine HW.out.mono ?_
 rintro e w2 ⟨rfl,rfl⟩
 go_wp2
 go_ret
 exact⟨rfl,rfl⟩
theorem NH (h:bL B w0 w q S F) (hl:S.core.length≤1000000) :
  Calls Tryz.prog 22 #[.pointer (some ⟨q,0,none⟩)] w fun e w'=>∃ a c',e=.returned (iB a S.core.length c')∧St w.heap.size w w' (bO 3 a c' S.core):=by
 obtain⟨p,M,h1,h2⟩:=h;have k0:=bL.c h1;have hc:=Vq h1 (by show M.sv.core.length≤_;rw[h2];exact hl);rw[h2] at hc;have HC:=zH hc;clear h1 h2 hc hl
 go_enter Tryz.func22,Tryz.ntmps22
 go_wp2_with fail
 refine HC.out.mono ?_
 rintro e w2 ⟨a,c',rfl,h3⟩
 have H3:=zH h3;clear h3 HC
 go_wp2
 go_ret
 exact⟨a,c',rfl,H3.out⟩
end
end Go.Proofs.YthbbmdnfkkffjaaGreat
namespace Go.Proofs.aC
open Go Go.RowKit Go.Proofs.au
structure pK (w:World) (A:Option Addr) (n:Nat) (xs:List Int):Prop where
 len:xs.length=n
 small:n≤140737488355328
 cells:0<n→∃ b o,A=some ⟨b,o,none⟩∧∀ j,j<n→w.cell? ⟨b,o+j,none⟩=some (.int .u8 (gi xs j))
theorem pK.grow {w w':World} {A:Option Addr} {n:Nat} {xs:List Int} (h:pK w A n xs) (hb:Below w.heap.size w w'):pK w' A n xs:=by
 refine⟨h.len,h.small,fun hn=>?_⟩;obtain⟨b,o,e,hc⟩:=h.cells hn;refine⟨b,o,e,fun j hj=>?_⟩;have:=World.block_lt_of_cell? w _ (hc j hj);rw[←hc j hj];exact hb.cell this
theorem pK.heap {w w':World} {A:Option Addr} {n:Nat} {xs:List Int} (h:pK w A n xs) (e:w'.heap=w.heap):pK w' A n xs :=
 ⟨h.len,h.small,fun hn=>by
  obtain⟨b,o,ee,hc⟩:=h.cells hn
  exact⟨b,o,ee,fun j hj=>by rw[←hc j hj];simp[World.cell?,e]⟩⟩
theorem pK.cell {w:World} {b o n:Nat} {xs:List Int} (h:pK w (some ⟨b,o,none⟩) n xs) {k:Nat} (hk:k<n):w.cell? ⟨b,o+k,none⟩=some (.int .u8 (gi xs k)):=by
 obtain⟨b',o',e,hc⟩:=h.cells (by omega);obtain⟨rfl,rfl⟩:b=b'∧o=o':=by simpa using e
 exact hc k hk
def Gu (xs:List Int):List Value:=xs.map (Value.int .u8)
@[simp] theorem adb (xs:List Int):(Gu xs).length=xs.length:=by simp[Gu]
theorem NI (xs:List Int) (i:Nat) (h:i<xs.length):(Gu xs)[i]?=some (.int .u8 (gi xs i)):=by
 simp[Gu,gi,List.getElem?_map,List.getElem?_eq_getElem h]
theorem NJ (xs ys:List Int):Gu (xs++ys)=Gu xs++Gu ys:=by simp[Gu]
def Ba (t:TypeId) (a:Option Nat) (c:Nat) (xs:List Int):HP:=sl a xs.length c t 1 (Gu xs)
theorem St.rdB {B:Nat} {w0 w:World} {t:TypeId} {a:Option Nat} {c:Nat} {xs:List Int} {F:HP} (h:St B w0 w (star (Ba t a c xs) F)) (hs:xs.length≤140737488355328):pK w (a.map fun b=>⟨b,0,none⟩) xs.length xs:=by
 refine⟨rfl,hs,fun hn=>?_⟩;obtain⟨_,_,_,hnone,hsome⟩:=h.sat.aR
 cases a with
 | none=>have:=hnone rfl;omega
 | some b =>
  refine⟨b,0,rfl,fun j hj=>?_⟩;rw[Nat.zero_add,St.aW (h:St B w0 w (star (sl (some b) _ _ _ _ _) F)) j (by simpa using hj),NI _ _ hj]
theorem pK.news {w:World} {A:Addr} {n:Nat} {xs:List Int} (h:pK w (some A) n xs) (hn:0<n):∀ j u,(Gu xs)[j]?=some u→w.cell? (A.add j)=some u:=by
 intro j u hj;obtain⟨b,o,e,hc⟩:=h.cells hn;have hlt:j<xs.length:=by have:=(List.getElem?_eq_some_iff.1 hj).1;simpa using this
 obtain rfl:A=⟨b,o,none⟩:=by simpa using e
 have hadd:(⟨b,o,none⟩:Addr).add j=⟨b,o+j,none⟩:=by unfold Addr.add;split <;> simp_all
 rw[hadd,hc j (by have:=h.len;omega)];rw[NI xs j hlt] at hj;exact hj
section
variable {P:Program}
variable {ops:Array Oper} {rest:List Oper} {o:Oper} {a:Act} {Q:Exit→Act→World→Prop}
theorem wpList_append_byte {w:World} (hgd:o.guard=none) (s x:Operand) (t e:TypeId)
  (ho:o.op=.call { callee:=.builtin .append,args:=#[s,x],argTypes:=#[t,t] })
  (ht:P.underlying t=some (.slice e)) (hinfo:(P.info? e).map (fun i=>(i.zero,i.size,i.bytes))=some (some (.int .u8 0),1,1))
  {B:Nat} {w0:World} {v:Option Nat} {c:Nat} {xs:List Int} {F:HP} (hst:St B w0 w (star (Ba e v c xs) F)) (n:Nat) (hn:xs.length=n)
  (hs:a.eval s=.slice (v.map fun b=>⟨b,0,none⟩) n c) (y:Int) (hx:a.eval x=.slice (some ⟨w.heap.size,0,none⟩) 1 1) (hb:(n+1)*1≤140737488355328)
  (h:∀ b' c' w',St B w0 w' (star (Ba e (some b') c' (xs++[y])) F)→wpList P ops Q rest (a.put o.dst (.slice (some ⟨b',0,none⟩) (n+1) c')) w') :
  wpList P ops Q (o :: rest) a (w.alloc (.cells #[.int .u8 y] e)):=by
 subst hn;refine aO hgd s x t e (.int .u8 0) 1 ho ht hinfo rfl hst hs (.int .u8 y) hx rfl hb (by simp only[maxLen];omega) ?_;intro b' c' w' h2;exact h b' c' w' (by unfold Ba;rw[NJ];simpa [Gu] using h2)
end
section
variable {P:Program}
end
end Go.Proofs.aC
namespace Go.Proofs.au
def dz (b:List Int):Prop:=∀ x∈b,0≤x∧x≤255
theorem dz.append {a b:List Int} (h:dz a) (k:dz b):dz (a++b):=fun x hx=>(List.mem_append.1 hx).elim (h x) (k x)
theorem dz.drop {b:List Int} (h:dz b) (n:Nat):dz (b.drop n):=fun x hx=>h x (List.mem_of_mem_drop hx)
theorem dz.tail {a:Int} {b:List Int} (h:dz (a :: b)):dz b:=fun x hx=>h x (by simp[hx])
def TW (n:Int):Bool:=decide (0≤n∧n≤2147483647)
theorem DT {n:Int}:TW n=true↔0≤n∧n≤2147483647:=by simp[TW]
def iw (n:Int):List Int:=[n/16777216 % 256,n/65536 % 256,n/256 % 256,n % 256]
theorem iQ (n:Int):(iw n).length=4:=rfl
def bI (a b c d:Int):Int:=a*16777216+b*65536+c*256+d
theorem Zq {a b c d:Int} (ha:0≤a∧a≤255) (hb:0≤b∧b≤255) (hc:0≤c∧c≤255) (hd:0≤d∧d≤255):iw (bI a b c d)=[a,b,c,d]:=by
 unfold iw bI
 congr 1
 ·omega
 ·congr 1
  ·omega
  ·congr 1
   ·omega
   ·congr 1
    omega
def pz (s:List Int):List Int:=iw s.length++s.flatMap iw
def Aw (l:List (List Int)):List Int:=iw 1347179569++(iw l.length++l.flatMap pz)
def Di (l:List (List Int)):List Int×Int:=if l.all (fun s=>s.all TW) then (Aw l,0) else ([],120)
theorem tT (s:List Int):(s.flatMap iw).length=4*s.length:=by
 induction s with
 | nil=>rfl
 | cons a r ih=>rw[List.flatMap_cons,List.length_append,ih,iQ,List.length_cons];omega
theorem Lh (s:List Int):(pz s).length=4+4*s.length:=by rw[pz,List.length_append,tT,iQ]
theorem ru (l:List (List Int)):(l.flatMap pz).length=4*l.length+4*(l.map List.length).sum:=by
 induction l with
 | nil=>rfl
 | cons a r ih=>rw[List.flatMap_cons,List.length_append,ih,Lh,List.length_cons,List.map_cons,List.sum_cons];omega
theorem CQ (l:List (List Int)):(Aw l).length=8+4*l.length+4*(l.map List.length).sum:=by
 rw[Aw,List.length_append,List.length_append,ru,iQ,iQ];omega
def dN:List Int→Option (Int×List Int)
 | a :: b :: c :: d :: r=>if a≤127 then some (bI a b c d,r) else none
 | _=>none
def iR:Nat→List Int→Option (List Int×List Int)
 | 0,b=>some ([],b)
 | k+1,b=>match dN b with
  | none=>none
  | some (x,r)=>match iR k r with
   | none=>none
   | some (l,r')=>some (x :: l,r')
def Gv (b:List Int):Option (List Int×List Int):=match dN b with
 | none=>none
 | some (n,r)=>iR n.toNat r
def fF:Nat→List Int→Option (List (List Int)×List Int)
 | 0,b=>some ([],b)
 | k+1,b=>match Gv b with
  | none=>none
  | some (x,r)=>match fF k r with
   | none=>none
   | some (l,r')=>some (x :: l,r')
def iH (b:List Int):List (List Int)×Int:=match dN b with
 | none=>([],120)
 | some (h,r)=>match dN r with
  | none=>([],120)
  | some (n,r2)=>if h≠1347179569 then ([],120) else match fF n.toNat r2 with
   | some (l,[])=>(l,0)
   | _=>([],120)
theorem gu {b:List Int} {n:Int} {r:List Int} (h:dN b=some (n,r)):b.length=r.length+4:=by
 unfold dN at h
 split at h
 ·split at h
  ·cases h;simp
  ·cases h
 ·cases h
theorem pE {b:List Int} {n:Int} {r:List Int} (hb:dz b) (h:dN b=some (n,r)):b=iw n++r∧TW n=true∧dz r:=by
 unfold dN at h
 split at h
 ·rename_i a b c d r'
  split at h
  ·rename_i ha
   cases h
   have h1:=hb a (by simp);have h2:=hb b (by simp);have h3:=hb c (by simp);have h4:=hb d (by simp);refine⟨by rw[Zq h1 h2 h3 h4];rfl,DT.2 ?_,fun x hx=>hb x (by simp[hx])⟩;unfold bI;omega
  ·cases h
 ·cases h
theorem sS:∀ (k:Nat) (b l r:List Int),iR k b=some (l,r)→b.length=r.length+4*k∧l.length=k
 | 0,b,l,r,h=>by cases h;simp
 | k+1,b,l,r,h=>by
  unfold iR at h
  split at h
  ·cases h
  ·rename_i x r1 h1
   split at h
   ·cases h
   ·rename_i l' r' h2
    cases h
    have e1:=gu h1;obtain⟨e2,e3⟩:=sS k r1 l' r h2;exact⟨by omega,by simp[e3]⟩
theorem NK {b l r:List Int} (h:Gv b=some (l,r)):b.length=r.length+4+4*l.length:=by
 unfold Gv at h
 split at h
 ·cases h
 ·rename_i n r1 h1;have e1:=gu h1;obtain⟨e2,e3⟩:=sS _ _ _ _ h;omega
theorem ni:∀ (k:Nat) (b:List Int) (l:List (List Int)) (r:List Int),fF k b=some (l,r)→b.length=r.length+4*k+4*(l.map List.length).sum∧l.length=k
 | 0,b,l,r,h=>by cases h;simp
 | k+1,b,l,r,h=>by
  unfold fF at h
  split at h
  ·cases h
  ·rename_i x r1 h1
   split at h
   ·cases h
   ·rename_i l' r' h2
    cases h
    have e1:=NK h1;obtain⟨e2,e3⟩:=ni k r1 l' r h2;simp only[List.map_cons,List.sum_cons,List.length_cons];omega
theorem NM (b:List Int):(iH b).2=0∨(iH b).2=120∧(iH b).1=[]:=by
 unfold iH
 split
 ·exact .inr ⟨rfl,rfl⟩
 ·split
  ·exact .inr ⟨rfl,rfl⟩
  ·split
   ·exact .inr ⟨rfl,rfl⟩
   ·split
    ·exact .inl rfl
    ·exact .inr ⟨rfl,rfl⟩
theorem JN {b:List Int} (h:(iH b).2=0):b.length=8+4*(iH b).1.length+4*((iH b).1.map List.length).sum:=by
 unfold iH at h ⊢
 split at h
 ·cases h
 ·rename_i m r h1
  try rw[h1]
  try simp only at h ⊢
  split at h
  ·cases h
  ·rename_i n r2 h2
   try rw[h2]
   try simp only at h ⊢
   split at h
   ·cases h
   ·rename_i hm
    try rw[if_neg hm]
    split at h
    ·rename_i l h3
     try rw[h3]
     try simp only
     have e1:=gu h1;have e2:=gu h2;obtain⟨e3,e4⟩:=ni _ _ _ _ h3;simp at e3;omega
    ·cases h
end Go.Proofs.au
namespace Go.Proofs.YthbbmdnfkkffjaaGreat
open Go.RowKit Go.Proofs.aC Go.Proofs.au
abbrev vk:=List (Option Nat×Nat×List Int)
def JO (W:vk):List Value:=W.map fun x=>iB x.1 x.2.2.length x.2.1
def JQ (W:vk):List HP:=W.map fun x=>bO 3 x.1 x.2.1 x.2.2
def bR (e:TypeId) (a:Option Nat) (c:Nat) (W:vk):HP:=star (sl a W.length c e 1 (JO W)) (stars (JQ W))
theorem Gw (W:vk):(JO W).length=W.length:=by simp[JO]
theorem RN (W V:vk):JO (W++V)=JO W++JO V:=by simp[JO]
theorem RO (W V:vk):JQ (W++V)=JQ W++JQ V:=by simp[JQ]
theorem Li (e:TypeId) (sz:Nat):sl none 0 0 e sz []=emp:=by
 funext h
 apply propext;exact⟨fun k=>k.2.2.2,fun k=>⟨by simp,rfl,rfl,k⟩⟩
theorem nI (e:TypeId):bR e none 0 []=emp:=by
 unfold bR JO JQ;simp only[List.map_nil,j6,List.length_nil,Li,aQ]
section
variable {B:Nat} {w0 w:World} {e:TypeId} {F:HP}
theorem jg {a:Option Nat} {c wl:Nat} {W:vk} (h:St B w0 w (star (bR e a c W) F)) (hw:W.length=wl):St B w0 w (star (sl a wl c e 1 (JO W)) (star (stars (JQ W)) F)):=by
 subst hw;exact h.aB (by unfold bR;ac_rfl)
theorem mh {b' c' wl:Nat} {W:vk} {ka:Option Nat} {kc:Nat} {l:List Int} (hw:W.length=wl) (h:St B w0 w (star (sl (some b') (wl+1) c' e 1 (JO W++[.slice (ka.map fun b=>⟨b,0,none⟩) l.length kc])) (star (bO 3 ka kc l) (star (stars (JQ W)) F)))) :
  St B w0 w (star (bR e (some b') c' (W++[(ka,kc,l)])) F):=by
 subst hw;refine h.aB ?_;unfold bR;rw[RN,RO,iW,List.length_append];simp only[JO,JQ,List.map_cons,List.map_nil,nA,List.length_cons,List.length_nil,iB]
 ac_rfl
theorem pF {a:Option Nat} {c:Nat} {W:vk} (h:St B w0 w (star (bR e a c W) F)) (hl:∀ x∈W,x.2.2.length≤140737488355328) (hn:W.length≤140737488355328) :
  um w (a.map fun b=>⟨b,0,none⟩) W.length (W.map fun x=>x.2.2):=by
 have h1:=jg h rfl;refine⟨by simp,hn,fun hp=>?_⟩;obtain⟨_,_,_,hnone,_⟩:=h1.sat.aR
 cases a with
 | none=>have:=(hnone rfl).1;omega
 | some b =>
  refine⟨b,0,rfl,fun j hj=>?_⟩;obtain⟨x,hx⟩:∃ x,W[j]?=some x:=⟨W[j],by simp[hj]⟩;have hg:gl (W.map fun x=>x.2.2) j=x.2.2:=by simp[gl,List.getD_eq_getElem?_getD,hx]
  refine⟨x.1.map fun b=>⟨b,0,none⟩,x.2.1,?_,?_⟩
  ·rw[Nat.zero_add,St.aW (h:=h1) j (by rw[Gw];exact hj),hg];simp[JO,hx,iB]
  ·rw[hg];have hr:(JQ W)[j]?=some (bO 3 x.1 x.2.1 x.2.2):=by simp[JQ,hx]
   have h2:St B w0 w (star (bO 3 x.1 x.2.1 x.2.2) (star (sl (some b) W.length c e 1 (JO W)) (star (stars ((JQ W).eraseIdx j)) F))):=h1.aB (by rw[(dW hr emp).1];ac_rfl);exact St.rd h2 (hl x (List.mem_of_getElem? hx))
end
def RP (w:World) (A:Option Addr) (n:Nat):Prop:=∀ b o j,A=some ⟨b,o,none⟩→j<n→∀ Aj l c,w.cell? ⟨b,o+j,none⟩=some (.slice Aj l c)→l≤c
theorem RP.grow {w w':World} {A:Option Addr} {n:Nat} {xss:List (List Int)} (h:RP w A n) (hr:um w A n xss) (hb:Below w.heap.size w w'):RP w' A n:=by
 intro b o j hA hj Aj l c hc;obtain⟨b2,o2,e,hcell⟩:=hr.cells (by omega);rw[hA] at e;obtain⟨rfl,rfl⟩:b=b2∧o=o2:=by simpa using e
 obtain⟨A2,c2,h2,_⟩:=hcell j hj;rw[hb.cell (World.block_lt_of_cell? w _ h2)] at hc;exact h b o j hA hj Aj l c hc
theorem NN {B:Nat} {w0 w:World} {e:TypeId} {F:HP} {a:Option Nat} {c n:Nat} {W:vk} (h:St B w0 w (star (bR e a c W) F)) (hn:W.length=n):RP w (a.map fun b=>⟨b,0,none⟩) n:=by
 subst hn;intro b o j hA hj Aj l cc hc;have h1:=jg h rfl
 cases a with
 | none=>cases hA
 | some b =>
  simp only[Option.map_some,Option.some.injEq,Addr.mk.injEq,and_true] at hA;obtain⟨rfl,rfl⟩:=hA;obtain⟨x,hx⟩:∃ x,W[j]?=some x:=⟨W[j],by simp[hj]⟩;rw[Nat.zero_add,St.aW (h:=h1) j (by rw[Gw];exact hj)] at hc;simp only[JO,List.getElem?_map,hx,Option.map_some,iB,Option.some.injEq,Value.slice.injEq] at hc;obtain⟨_,rfl,rfl⟩:=hc;have hr:(JQ W)[j]?=some (bO 3 x.1 x.2.1 x.2.2):=by simp[JQ,hx]
  have h2:St B w0 w (star (bO 3 x.1 x.2.1 x.2.2) (star (sl (some b) W.length c e 1 (JO W)) (star (stars ((JQ W).eraseIdx j)) F))):=h1.aB (by rw[(dW hr emp).1];ac_rfl);unfold bO at h2;exact h2.sat.aR.2.1
theorem St.none (w:World) (e:TypeId):St w.heap.size w w (star (sl none 0 0 e 1 []) emp):=⟨Below.refl _ _,Nat.le_refl _,(St.start w).sat.uh _ _⟩
theorem Tryz.infoByte:(Tryz.prog.info? 5).map (fun i=>(i.zero,i.size,i.bytes))=some (some (.int .u8 0),1,1):=by kernel_rfl
theorem Tryz.NP:(Tryz.prog.info? 106).map (fun i=>(i.zero,i.size,i.bytes))=some (some (.agg #[.slice none 0 0]),1,24):=by kernel_rfl
theorem ae0 {P:Program} {f:FuncId} {args:Array Value} {w:World} {n:Nat} {v:Value} (c:∀ k,Calls P f args (w.drewN k) fun e w'=>e=.returned v∧∃ m,w'=w.drewN m) :
  Calls P f args (w.drewN n) fun e w''=>e=.returned v∧∃ m,w''=w.drewN m:=c n
end Go.Proofs.YthbbmdnfkkffjaaGreat

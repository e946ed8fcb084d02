/-
  Parts of the proof, joined by program: Der6, Der7, RDer2, Byte3.
-/
import Derived.Test.YthbbmdnfkkffjaaGreatY40
import Derived.Test.YthbbmdnfkkffjaaGreatY04
import Derived.Test.YthbbmdnfkkffjaaGreatY35
import Derived.Test.YthbbmdnfkkffjaaGreatY30
import Derived.Test.YthbbmdnfkkffjaaGreatY38
import Derived.Test.YthbbmdnfkkffjaaGreatY01
import Derived.Lib.Hide
set_option maxHeartbeats 8000000
set_option maxRecDepth 100000
namespace Go.Proofs.aC
open Go Go.RowKit Go.Proofs.au
theorem GN {w:World} {b i:Nat} {v:Value} (k:Nat) (hk:k≠b):(w.setCell ⟨b,i,none⟩ v).heap[k]?=w.heap[k]?:=by
 unfold World.setCell;simp[Array.getElem?_modify,Ne.symm hk]
theorem Mk.same {w w':World} {b:Nat} (h:Mk w b) (e:w'.heap[b]?=w.heap[b]?):Mk w' b:=by
 intro i v hv;refine h i v ?_;rw[←hv];unfold World.cell?;rw[e]
def Pt (w:World) (a:Option Nat):Prop:=∀ b,a=some b→Mk w b
theorem Rd.GQ {w w':World} {a:Option Nat} {A:Option Addr} {n:Nat} {xs:List Int} (h:Rd w A n xs) (hb:Pt w a) (hk:∀ k,k<w.heap.size→a≠some k→w'.heap[k]?=w.heap[k]?):Rd w' A n xs :=
 h.keep fun b' o e hp=>hk b' (h.lt b' o e hp) fun e2=>h.ne (hb b' e2) b' o e hp rfl
def gY (w:World) (V:List Value) (D:List (List Int)):Prop:=V.length=D.length∧∀ j,j<D.length→∃ A c,V[j]?=some (.slice A (gl D j).length c)∧Rd w A (gl D j).length (gl D j)
theorem gY.nil (w:World):gY w [] []:=⟨rfl,fun j hj=>absurd hj (Nat.not_lt_zero j)⟩
theorem gY.grow {w w':World} {V:List Value} {D:List (List Int)} (h:gY w V D) (hb:Below w.heap.size w w'):gY w' V D :=
 ⟨h.1,fun j hj=>by obtain⟨A,c,h1,h2⟩:=h.2 j hj;exact⟨A,c,h1,h2.grow hb⟩⟩
theorem gY.GQ {w w':World} {a:Option Nat} {V:List Value} {D:List (List Int)} (h:gY w V D) (hb:Pt w a) (hk:∀ k,k<w.heap.size→a≠some k→w'.heap[k]?=w.heap[k]?):gY w' V D :=
 ⟨h.1,fun j hj=>by obtain⟨A,c,h1,h2⟩:=h.2 j hj;exact⟨A,c,h1,h2.GQ hb hk⟩⟩
theorem gY.adk {w:World} {V:List Value} {D:List (List Int)} (h:gY w V D):∀ u∈V,∀ x,u≠.int .i64 x:=by
 intro u hu x;obtain⟨j,hj,rfl⟩:=List.getElem_of_mem hu;obtain⟨A,c,h1,_⟩:=h.2 j (by rw[←h.1];exact hj);rw[List.getElem?_eq_getElem hj] at h1;simp only[Option.some.injEq] at h1;rw[h1];simp
theorem vC {D:List (List Int)} {d:List Int} {j:Nat} (h:j<D.length):gl (D++[d]) j=gl D j:=by simp[gl,List.getD_eq_getElem?_getD,List.getElem?_append_left h]
theorem vD {D:List (List Int)} {d:List Int}:gl (D++[d]) D.length=d:=by simp[gl,List.getD_eq_getElem?_getD]
theorem gY.snoc {w:World} {V:List Value} {D:List (List Int)} {A:Option Addr} {d:List Int} (h:gY w V D) (hr:Rd w A d.length d) (c n:Nat) (hn:d.length=n):gY w (V++[.slice A n c]) (D++[d]):=by
 subst hn;refine⟨by simp[h.1],fun j hj=>?_⟩
 by_cases hjD:j<D.length
 ·obtain⟨A2,c2,h1,h2⟩:=h.2 j hjD;refine⟨A2,c2,?_,by rw[vC hjD];exact h2⟩;rw[vC hjD,List.getElem?_append_left (by rw[h.1];exact hjD)];exact h1
 ·have e:j=D.length:=by simp at hj;omega
  subst e;refine⟨A,c,?_,by rw[vD];exact hr⟩;rw[vD,←h.1];simp
theorem gY.tQ {B:Nat} {w0 w:World} {F:HP} {e:TypeId} {a:Option Nat} {n c:Nat} {V:List Value} {D:List (List Int)} (h:gY w V D) (hst:St B w0 w (star (sl a n c e 1 V) F)) (hn:n≤140737488355328):um w (a.map fun b=>⟨b,0,none⟩) n D:=by
 obtain⟨hx,_,_,hnone,_⟩:=hst.sat.aR;have hl:D.length=n:=by rw[←h.1];omega
 refine⟨hl,hn,fun hp=>?_⟩
 cases a with
 | none=>have:=(hnone rfl).1;omega
 | some b =>
  refine⟨b,0,rfl,fun j hj=>?_⟩;obtain⟨A,c',h1,h2⟩:=h.2 j (by omega);refine⟨A,c',?_,h2⟩;rw[Nat.zero_add,St.aW (h:=hst) j (by omega)];exact h1
theorem St.adl {B:Nat} {w0 w:World} {F:HP} {e:TypeId} {a:Option Nat} {n c sz:Nat} {V:List Value} (hst:St B w0 w (star (sl a n c e sz V) F)):∀ b,a=some b→b<w.heap.size:=by
 intro b hb;subst hb;obtain⟨cur,_,_,_,_,_,hp⟩:=hst.sat.wG;exact (Array.getElem?_eq_some_iff.1 (Sat.one hp).1).1
theorem Pt.grow {w w':World} {a:Option Nat} (h:Pt w a) (hlt:∀ b,a=some b→b<w.heap.size) (hb:Below w.heap.size w w'):Pt w' a:=fun b e=>(h b e).same (hb.block b (hlt b e))
section
variable {P:Program} {ops:Array Oper} {rest:List Oper} {o:Oper} {a:Act} {Q:Exit→Act→World→Prop}
theorem Ca {w:World} (hgd:o.guard=none) (t:TypeId) (x y:Operand) (ho:o.op=.store t x y) (hsz:(P.info? t).map (·.size)=some 1)
  {B:Nat} {w0:World} {b:Nat} {e:TypeId} {xs:List Value} {F:HP} (hst:St B w0 w (star (pt b e xs) F)) (i:Nat) (v:Value) (hx:a.eval x=.pointer (some ⟨b,i,none⟩)) (hy:a.eval y=v) (h1:v.oneCell'=true) (hi:i<xs.length)
  (h:∀ w',St B w0 w' (star (pt b e (xs.set i v)) F)→(∀ k,k≠b→w'.heap[k]?=w.heap[k]?)→wpList P ops Q rest (a.put o.dst undef) w') :
  wpList P ops Q (o :: rest) a w:=by
 refine wpList_plain hgd fun K hK=>?_;have hr:=rH (P:=P) (w:=w) t b i v hsz h1 ⟨xs[i],by rw[hst.aG i];simp[hi]⟩ (hst.bU i);unfold Oper.wp execOp;simp only[ho,hx,hy,Sem.run_bind,Sem.run_pure,hr,Result.andThen_ok];exact hK _ _ (h _ (hst.bM i v) fun k hk=>GN k hk)
end
end Go.Proofs.aC
namespace Go.Proofs.YthbbmdnfkkffjaaGreat
open Go.RowKit Go.Proofs.aC Go.Proofs.au
def acf (w:World) (r:Option (List (List Int))) (e:Ending) (w':World):Prop :=
 Below w.heap.size w w'∧(∀ D,r=some D→∃ a c V,e=.returned (.tuple #[.slice (a.map fun b=>⟨b,0,none⟩) D.length c,.int .i64 0])∧St w.heap.size w w' (star (sl a D.length c 27 1 V) emp)∧gY w' V D∧Pt w' a) ∧
  (r=none→e=.returned (.tuple #[.slice none 0 0,.int .i64 121]))
theorem Tryz.ZL:(Tryz.prog.info? 37).map (·.size)=some 1:=by kernel_rfl
theorem GR {G D:List (List Int)} {s:List Int} {r:List (List Int)}:d9 G D (s :: r)=match gy G D s with
  | none=>none
  | some c=>d9 G (D++[c]) r:=rfl
theorem tV {G:List (List Int)} {g:List Int} (h:g∈G):g.length≤G.flatten.length:=by
 induction G with
 | nil=>cases h
 | cons x r ih =>
  rw[List.flatten_cons,List.length_append];rcases List.mem_cons.1 h with rfl | h
  ·omega
  ·have:=ih h;omega
theorem Sg (AG:Option Addr) (nG cG:Nat) (G:List (List Int)) (AL:Option Addr) (nL cL:Nat) (l:List (List Int)) (w:World) (hG:um w AG nG G) (hL:um w AL nL l) (hcap:RP w AL nL) (hnG:nG≤1000000) (hnL:nL≤1000000)
  (hsum:G.flatten.length≤1000000) (hLs:∀ j,j<nL→(gl l j).length≤100000) :
  Calls Tryz.prog 80 #[.slice AG nG cG,.slice AL nL cL] w (acf w (d9 G [] l)):=by
 have HG:=zH hG;have HL:=zH hL;have HCAP:=zH hcap;have HGS:=zH (show ∀ g∈G,g.length≤1000000 from fun g hg=>Nat.le_trans (tV hg) hsum);have yS:=zH hsum;have Qu:=zH hLs;have RY:=zH ((St.start w).iC #[.slice AG nG cG,.slice none 0 0] 134);clear hG hL hcap hsum hLs
 go_enter Tryz.func80,Tryz.ntmps80
 go_wp2
 go_loopw [16] (fun v16 wr=>∃ (j:Nat) (a:Option Nat) (c:Nat) (V:List Value) (D:List (List Int)),j≤nL∧v16=.int .i64 j∧Hid (D.length=j) ∧
  Hid (St w.heap.size w wr (star (pt w.heap.size 134 [.slice AG nG cG,.slice (a.map fun b=>⟨b,0,none⟩) j c]) (star (sl a j c 27 1 V) emp)))∧Hid (gY wr V D)∧Hid (Pt wr a)∧Hid (AO G D)∧Hid (d9 G [] l=d9 G D (l.drop j))) (fun v16 _=>nL-(intOf v16).toNat)
 case atStart =>
  refine⟨0,none,0,[],[],Nat.zero_le _,rfl,(rfl:([]:List (List Int)).length=0),(?_:St w.heap.size w _ (star (pt w.heap.size 134 [.slice AG nG cG,.slice none 0 0]) (star (sl none 0 0 27 1 []) emp))),gY.nil _,(fun b hb=>(by cases hb):Pt _ none),(fun d hd=>(by cases hd):AO G []),(rfl:d9 G [] l=d9 G [] (l.drop 0))⟩;rw[Li,aQ];exact RY.out
 case round =>
  obtain⟨j,a,c,V,D,hj,rfl,LX,HST,Ie,HNI,HGD,FR⟩:=hrel
  by_cases hjn:j<nL
  ·obtain⟨ab,ao,hA,hc⟩:=(HL.out.grow HST.out.below).cells (by omega);subst hA;obtain⟨Aj,cj,d1,kC⟩:=hc j hjn;have hcj:=(HCAP.out.grow HL.out HST.out.below) ab ao j rfl hjn _ _ _ d1;have hsm:=Qu.out j hjn;have hjl:j<l.length:=by have:=HL.out.len;omega
   have hdrop:l.drop j=gl l j :: l.drop (j+1):=by rw[List.drop_eq_getElem_cons hjl,jq l j hjl]
   obtain⟨s,hs⟩:∃ s,gl l j=s:=⟨_,rfl⟩;obtain⟨ln,hln⟩:∃ ln,s.length=ln:=⟨_,rfl⟩;rw[hs,hln] at d1 kC hcj;rw[hs,hln] at hsm
   have hgo:d9 G [] l=match gy G D s with
     | none=>none
     | some c=>d9 G (D++[c]) (l.drop (j+1)):=by rw[FR.out,hdrop,hs,GR]
   have ku:=zH hgo;have Gy:=zH kC;have hj0:(0:Int)≤(j:Int):=by omega
   have hj1:(j:Int)<(nL:Int):=by omega
   have hba:Below wr.heap.size wr (wr.alloc (.cells #[.slice Aj ln cj] 106)):=(Below.refl _ _).alloc (Nat.le_refl _) _;have HBA:=zH hba
   have hda:JZ wr w.heap.size AG nG cG (a.map fun b=>⟨b,0,none⟩) j c G D :=
    ⟨HST.out.aG 0,HST.out.aG 1,HG.out.grow HST.out.below,Ie.out.tQ (F:=star (pt w.heap.size 134 [.slice AG nG cG,.slice (a.map fun b=>⟨b,0,none⟩) j c]) emp) (HST.out.aB (by ac_rfl)) (by omega)⟩
   have HDA:=zH (hda.grow hba);have HDS:=zH (show ∀ d∈D,d.length≤1000000 from fun d hd=>Nat.le_trans (HGD.out.len d hd) yS.out);clear hc kC hs hln hdrop hjl hgo hba hda FR
   go_wp2_with fail
   refine (VW w.heap.size AG nG cG _ j c G D Aj ln cj s _ HDA.out hnG (by omega) HGS.out HDS.out (fun d hd=>(HGD.out d hd).1) (Gy.out.grow HBA.out) hsm hcj).mono ?_
   rintro e w2 ⟨hb2,hgood,hbad⟩
   have afe:Below wr.heap.size wr w2:=HBA.out.trans (hb2.mono (by simp));have lU:=zH (HST.out.grow afe);have jL:=zH hgood;have HBAD:=zH hbad;have aiM:=zH afe;clear hb2 hgood hbad afe d1
   cases hst:gy G D s with
   | none =>
    have he:=HBAD.out hst;subst he;have HN:=zH (show d9 G [] l=none by rw[ku.out,hst]);clear hst
    go_wp2
    go_ret2
    exact⟨lU.out.below,fun D hD=>(by rw[HN.out] at hD;cases hD),fun _=>rfl⟩
   | some x =>
    obtain⟨A1,k1,rfl,hrd⟩:=jL.out x hst;have ZJ:=zH (show d9 G [] l=d9 G (D++[x]) (l.drop (j+1)) by rw[ku.out,hst]);have aff:=zH (HGD.out.snoc hst);have amJ:=zH hrd;have hslt:=(HST.out.aB (show _=star (sl a j c 27 1 V) (star (pt w.heap.size 134 [.slice AG nG cG,.slice (a.map fun b=>⟨b,0,none⟩) j c]) emp) by ac_rfl)).adl;have Si:=zH (HNI.out.grow hslt aiM.out);have ZM:=zH (Ie.out.grow aiM.out);have hs3:St w.heap.size w w2 (star (sl a j c 27 1 V) (star (pt w.heap.size 134 [.slice AG nG cG,.slice (a.map fun b=>⟨b,0,none⟩) j c]) emp)):=lU.out.aB (by ac_rfl);have Hy:=zH hs3;have d2:w2.cell? ⟨w.heap.size,1,none⟩=some (.slice (a.map fun b=>⟨b,0,none⟩) j c):=lU.out.aG 1;obtain⟨xl,hxl⟩:∃ xl,x.length=xl:=⟨_,rfl⟩;have tO:=zH hxl;rw[hxl];clear hst hrd hslt hs3 hxl jL HBAD
    go_wp2_with (first
     | (at_builtin;refine tK rfl _ _ 37 27 (.slice none 0 0) 24 rfl Tryz.underlying37 Tryz.jB rfl Hy.out rfl (.slice A1 xl k1) rfl rfl (by omega) (by simp only[maxLen];omega) ?_;intro b' c' w3 h3 hk3 hq3;have H3:=zH h3;have Np:=zH hk3;have HQ3:=zH hq3;have h5:=h3.aB (show _=star (pt w.heap.size 134 [.slice AG nG cG,.slice (a.map fun b=>⟨b,0,none⟩) j c]) (star (sl (some b') (j+1) c' 27 1 (V++[.slice A1 xl k1])) emp) by ac_rfl);clear h3 hk3 hq3)
     | (refine Ca rfl 37 _ _ rfl Tryz.ZL h5 1 (.slice (some ⟨b',0,none⟩) (j+1) c') rfl rfl rfl (by simp) ?_;intro w4 h6 hk6;have H5:=zH h5;have H6:=zH h6;have HK6:=zH hk6;clear h5 h6 hk6))
    have hne:w.heap.size≠b':=Sat.gW (F:=emp) (H5.out.sat)
    have ZN:Pt w3 (some b'):=fun b0 e=>by
     cases e
     exact fun i u hu=>HQ3.out (fun u=>∀ x,u≠.int .i64 x) ZM.out.adk (by simp) (by simp[Value.cells]) (fun b0 i u e hu=>Si.out b0 e i u hu) i u hu
    have ZO:gY w3 (V++[.slice A1 xl k1]) (D++[x]):=(ZM.out.GQ Si.out Np.out).snoc (amJ.out.GQ Si.out Np.out) k1 xl tO.out
    have hnp:Pt w3 (some w.heap.size):=fun b0 e=>by
     cases e
     intro i u hu x;rw[H5.out.aG i] at hu
     match i,hu with
     | 0,hu=>cases hu;simp
     | 1,hu=>cases hu;simp
     | _+2,hu=>simp at hu
    have aiN:gY _ (V++[.slice A1 xl k1]) (D++[x]):=ZO.GQ hnp fun k _ hk=>HK6.out k fun e=>hk (by rw[e]);have aiO:Pt _ (some b'):=fun b0 e=>(ZN b0 e).same (HK6.out b0 (by cases e;exact fun e=>hne e.symm));have amK:=zH aiN;have amL:=zH aiO;clear hne ZN ZO hnp aiN aiO
    go_wp2
    go_roundw
    case rel=>exact⟨j+1,some b',c',V++[Value.slice A1 xl k1],D++[x],by omega,by go_num,(by rw[List.length_append,LX.out];rfl:(D++[x]).length=j+1),H6.out,amK.out,amL.out,aff.out,ZJ.out⟩
    case measure=>simp[intOf];omega
  ·obtain rfl:j=nL:=by omega
   have hfin:d9 G [] l=some D:=by
    have:=FR.out
    rwa [List.drop_of_length_le (by have:=HL.out.len;omega)] at this
   have qA:=zH hfin;have d2:wr.cell? ⟨w.heap.size,1,none⟩=some (.slice (a.map fun b=>⟨b,0,none⟩) j c):=HST.out.aG 1;have hs3:St w.heap.size w wr (star (sl a j c 27 1 V) emp):=HST.out.wH;have Hy:=zH hs3;clear hfin hs3
   go_wp2
   go_ret2
   refine⟨HST.out.below,fun E hE=>?_,fun hE=>(by rw[qA.out] at hE;cases hE)⟩;rw[qA.out] at hE
   cases hE
   exact⟨a,c,V,by rw[LX.out];rfl,by rw[LX.out];exact Hy.out,Ie.out,HNI.out⟩
end Go.Proofs.YthbbmdnfkkffjaaGreat
namespace Go.Proofs.aC
open Go Go.RowKit Go.Proofs.au
theorem gY.set {w:World} {V:List Value} {D:List (List Int)} {A:Option Addr} {j:Nat} (h:gY w V D) (hj:j<D.length) (hr:Rd w A (gl D j).length (gl D j)) (c n:Nat) (hn:(gl D j).length=n):gY w (V.set j (.slice A n c)) D:=by
 subst hn;refine⟨by simp[h.1],fun i hi=>?_⟩
 by_cases e:i=j
 ·subst e;exact⟨A,c,by rw[List.getElem?_set_self (by rw[h.1];exact hj)],hr⟩
 ·obtain⟨A2,c2,h1,h2⟩:=h.2 i hi;exact⟨A2,c2,by rw[List.getElem?_set_ne (Ne.symm e)];exact h1,h2⟩
theorem Pt.set {w:World} {b i:Nat} {u v:Value} (h:Pt w (some b)) (hc:w.cell? ⟨b,i,none⟩=some u) (hv:∀ x,v≠.int .i64 x):Pt (w.setCell ⟨b,i,none⟩ v) (some b):=by
 intro b0 e k y hy
 cases e
 by_cases hk:k=i
 ·subst hk;rw[World.cell?_setCell_same w _ _ hc] at hy
  cases hy
  exact hv
 ·have hne:(⟨b,i,none⟩:Addr)≠⟨b,k,none⟩:=by intro e;cases e;exact hk rfl
  rw[World.cell?_setCell_other (h:=hne)] at hy;exact h b rfl k y hy
end Go.Proofs.aC
namespace Go.Proofs.YthbbmdnfkkffjaaGreat
open Go.RowKit Go.Proofs.aC Go.Proofs.au
def Pv (w:World) (r:Option (List (List Int))) (e:Ending) (w':World):Prop :=
 Below w.heap.size w w'∧(∀ D,r=some D→∃ A c,e=.returned (.tuple #[.slice A D.length c,.int .i64 0])∧um w' A D.length D∧D.length≤c) ∧
  (r=none→e=.returned (.tuple #[.slice none 0 0,.int .i64 121]))
theorem Cb {G:List (List Int)}:∀ {l D E:List (List Int)},d9 G D l=some E→E.length=D.length+l.length
 | [],D,E,h=>by cases h;simp
 | s :: r,D,E,h=>by
  unfold d9 at h
  split at h
  ·cases h
  ·have:=Cb h;simp at this ⊢;omega
theorem VY (G:List (List Int)):AO G []:=fun d hd=>by cases hd
theorem btr {w0 w w':World} (h:Below w0.heap.size w0 w) (k:Below w.heap.size w w'):Below w0.heap.size w0 w':=h.trans (k.mono h.size)
theorem Pw {G D:List (List Int)} {p:Int} (h:p<0):bP G D p=none:=by unfold bP;rw[if_pos (.inl h)]
theorem Px {G D:List (List Int)} {p:Int} (h:(G.length:Int)+D.length≤p):bP G D p=none:=by unfold bP;rw[if_pos (.inr h)]
theorem Iz {G D:List (List Int)} {Q:Nat} (h:Q<G.length):bP G D Q=qh (gl G Q):=by
 unfold bP;rw[if_neg (by omega),if_pos (by omega),Int.toNat_natCast]
theorem Lx {G D:List (List Int)} {p:Int} {t:Nat} (h:p-G.length=t) (ht:t<D.length):bP G D p=some (gl D t):=by
 unfold bP;rw[if_neg (by omega),if_neg (by omega),h,Int.toNat_natCast]
def mI (G D:List (List Int)) (s cur:List Int) (j:Nat):Prop:=(j=0∧cur=[])∨(0<j∧gD cur∧vv G cur∧gy G D s=jM G D cur (s.drop j))
theorem mI.nix {G D:List (List Int)} {s cur:List Int} {j:Nat} (h:mI G D s cur j) (hj:j<s.length) (hc:bP G D (gi s j)=none):gy G D s=none:=by
 have hd:s.drop j=gi s j :: s.drop (j+1):=by rw[List.drop_eq_getElem_cons hj,dh s j hj]
 rcases h with ⟨rfl,_⟩ | ⟨_,_,_,h⟩
 ·rw[List.drop_zero] at hd;rw[hd,gy,hc]
 ·rw[h,hd,jM,hc]
theorem mI.first {G D:List (List Int)} {s cur d:List Int} (_h:mI G D s cur 0) (hj:0<s.length) (hc:bP G D (gi s 0)=some d) (hs:gD d) (hl:vv G d):mI G D s d 1:=by
 have hd:s.drop 0=gi s 0 :: s.drop 1:=by rw[List.drop_eq_getElem_cons hj,dh s 0 hj]
 rw[List.drop_zero] at hd;refine .inr ⟨by omega,hs,hl,?_⟩;have h2:gy G D (gi s 0 :: s.drop 1)=jM G D d (s.drop 1):=by rw[gy,hc]
 rw[←hd] at h2;exact h2
theorem mI.next {G D:List (List Int)} {s cur d e:List Int} {j:Nat} (h:mI G D s cur j) (hj0:0<j) (hj:j<s.length) (hc:bP G D (gi s j)=some d) (he:rz cur d=some e) (hs:gD e) (hl:vv G e):mI G D s e (j+1):=by
 have hd:s.drop j=gi s j :: s.drop (j+1):=by rw[List.drop_eq_getElem_cons hj,dh s j hj]
 rcases h with ⟨rfl,_⟩ | ⟨_,_,_,h⟩
 ·omega
 ·exact .inr ⟨by omega,hs,hl,by rw[h,hd,jM,hc];simp only[he]⟩
theorem mI.stop {G D:List (List Int)} {s cur d:List Int} {j:Nat} (h:mI G D s cur j) (hj0:0<j) (hj:j<s.length) (hc:bP G D (gi s j)=some d) (he:rz cur d=none):gy G D s=none:=by
 have hd:s.drop j=gi s j :: s.drop (j+1):=by rw[List.drop_eq_getElem_cons hj,dh s j hj]
 rcases h with ⟨rfl,_⟩ | ⟨_,_,_,h⟩
 ·omega
 ·rw[h,hd,jM,hc];simp only[he]
theorem jI {w w':World} {r:Option (List (List Int))} (hb:Below w.heap.size w w') (h:r=none):Pv w r (.returned (.tuple #[.slice none 0 0,.int .i64 121])) w' :=
 ⟨hb,fun D hD=>(by rw[h] at hD;cases hD),fun _=>rfl⟩
theorem Py (AG:Option Addr) (nG cG:Nat) (G:List (List Int)) (AL:Option Addr) (nL cL:Nat) (l:List (List Int)) (w:World) (hG:um w AG nG G) (hL:um w AL nL l) (hnG:nG≤100000) (hnL:nL≤100000)
  (hsum:G.flatten.length≤100000) (hLs:∀ j,j<nL→(gl l j).length≤100000) :
  Calls Tryz.prog 58 #[.slice AG nG cG,.slice AL nL cL] w (Pv w (d9 G [] l)):=by
 have HG:=zH hG;have HL:=zH hL;have HGL:=zH hG.len;have LU:=zH hL.len;have HGS:=zH (show ∀ g∈G,g.length≤100000 from fun g hg=>Nat.le_trans (tV hg) hsum);have yS:=zH hsum;have Qu:=zH hLs;clear hG hL hsum hLs
 go_enter Tryz.func58,Tryz.ntmps58
 go_wp2
 go_loopw [6,7] (fun v6 v7 wr=>∃ (i:Nat) (a:Option Nat) (c:Nat) (V:List Value) (D:List (List Int)),i≤nL∧v7=.int .i64 i∧v6=.slice (a.map fun b=>⟨b,0,none⟩) i c∧Hid (D.length=i) ∧
  Hid (St w.heap.size w wr (star (sl a i c 27 1 V) emp))∧Hid (gY wr V D)∧Hid (Pt wr a)∧Hid (AO G D)∧Hid (d9 G [] l=d9 G D (l.drop i))) (fun _ v7 _=>nL-(intOf v7).toNat)
 case atStart=>exact⟨0,none,0,[],[],Nat.zero_le _,rfl,rfl,(rfl:([]:List (List Int)).length=0),(by rw[Li,aQ];exact St.start w:St w.heap.size w w (star (sl none 0 0 27 1 []) emp)),gY.nil _,(fun b hb=>(by cases hb):Pt _ none),VY G,(rfl:d9 G [] l=d9 G [] (l.drop 0))⟩
 case round =>
  obtain⟨i,a,c,V,D,hi,rfl,rfl,LX,HST,Ie,HNI,HGD,FR⟩:=hrel
  by_cases hin:i<nL
  ·obtain⟨ab,ao,hA,hc⟩:=HL.out.cells (by omega);subst hA;obtain⟨Aj,cj,d0,kC⟩:=hc i hin;have d1:=(HST.out.below.cell (World.block_lt_of_cell? w _ d0)).trans d0;have hsm:=Qu.out i hin;have hil:i<l.length:=by rw[LU.out];exact hin
   have hdrop:l.drop i=gl l i :: l.drop (i+1):=by rw[List.drop_eq_getElem_cons hil,jq l i hil]
   obtain⟨s,hs⟩:∃ s,gl l i=s:=⟨_,rfl⟩;obtain⟨ln,hln⟩:∃ ln,s.length=ln:=⟨_,rfl⟩;rw[hs,hln] at d1 kC hsm
   have hgo:d9 G [] l=match gy G D s with
     | none=>none
     | some c=>d9 G (D++[c]) (l.drop (i+1)):=by first|(rw[FR.out,hdrop,hs,GR];done)|(rw[FR.out,hdrop,hs,GR];rfl)
   have ku:=zH hgo;have Gy:=zH kC;have fP:=zH hln;have HD1:=zH (show ∀ V,Below wr.heap.size wr V→V.cell? ⟨ab,ao+i,none⟩=some (.slice Aj ln cj) from fun V hV=>(hV.cell (World.block_lt_of_cell? wr _ d1)).trans d1);obtain⟨AA,hAA⟩:∃ AA:Option Addr,(a.map fun b=>⟨b,0,none⟩)=AA:=⟨_,rfl⟩;rw[hAA];have HAA:=zH hAA;have i0:(0:Int)≤(i:Int):=by omega
   have i1:(i:Int)<(nL:Int):=by omega
   clear hc d0 kC hs hln hdrop hil hgo hAA FR
   by_cases hl0:ln=0
   ·subst hl0;have hnil:s=[]:=List.eq_nil_of_length_eq_zero fP.out;have HN:=zH (show d9 G [] l=none by rw[ku.out,hnil];rfl);clear hnil
    go_wp2
    go_ret2
    exact jI HST.out.below HN.out
   have e0:((ln:Int)==0)=false:=by simp;omega
   obtain⟨wo,hwo⟩:∃ wo:World,wo=wr:=⟨_,rfl⟩;have HWO:=zH (show Below wo.heap.size wo wr by rw[hwo];exact Below.refl _ _);rw[←hwo] at HD1 HST Ie HNI;clear hwo
   go_wp2
   go_loopw [8,9] (fun v8 v9 wr=>∃ (j cl k:Nat) (A1:Option Addr) (cur:List Int),j≤ln∧cl≤100000∧v9=.int .i64 j∧v8=.slice A1 cl k∧Hid (Below wo.heap.size wo wr)∧Hid (Rd wr A1 cl cur)∧Hid (mI G D s cur j)) (fun _ v9 _=>ln-(intOf v9).toNat)
   case atStart=>exact⟨0,0,0,none,[],Nat.zero_le _,Nat.zero_le _,rfl,rfl,HWO.out,(⟨rfl,Nat.zero_le _,fun h=>absurd h (Nat.lt_irrefl 0)⟩:Rd _ none 0 []),(.inl ⟨rfl,rfl⟩:mI G D s [] 0)⟩
   case round =>
    obtain⟨j,cl,k,A1,cur,hj,hcl,rfl,rfl,HB,HRC,HAT⟩:=hrel;have d2:=HD1.out _ HB.out
    by_cases hjn:j<ln
    ·obtain⟨bx,ox,hA,hcx⟩:=(Gy.out.grow (HST.out.below.trans (HB.out.mono HST.out.below.size))).cells (by omega);subst hA;have d3:=hcx j hjn;have hjs:j<s.length:=by rw[fP.out];exact hjn
     obtain⟨p,hp⟩:∃ p,gi s j=p:=⟨_,rfl⟩;rw[hp] at d3;have HP:=zH hp;have HJS:=zH hjs;have j0:(0:Int)≤(j:Int):=by omega
     have j1:(j:Int)<(ln:Int):=by omega
     clear hcx hjs hp
     by_cases hneg:p<0
     ·have e1:decide (p<0)=true:=by simpa using hneg
      have HN:=zH (show d9 G [] l=none by rw[ku.out,HAT.out.nix HJS.out (by rw[HP.out];exact Pw hneg)])
      go_wp2
      go_ret2
      exact jI (HST.out.below.trans (HB.out.mono HST.out.below.size)) HN.out
     have e1:decide (p<0)=false:=by simpa using hneg
     by_cases hbig:(nG:Int)+i≤p
     ·have e2:decide ((nG:Int)+(i:Int)≤p)=true:=by simpa using hbig
      have HN:=zH (show d9 G [] l=none by rw[ku.out,HAT.out.nix HJS.out (by rw[HP.out];exact Px (by rw[HGL.out,LX.out];exact hbig))])
      go_wp2
      go_ret2
      exact jI (HST.out.below.trans (HB.out.mono HST.out.below.size)) HN.out
     have e2:decide ((nG:Int)+(i:Int)≤p)=false:=by simpa using hbig
     obtain⟨Q,rfl⟩:∃ Q:Nat,p=Q:=⟨p.toNat,by omega⟩
     by_cases hgv:Q<nG
     ·have e3:decide ((Q:Int)<(nG:Int))=true:=by simp;omega
      have hcf:bP G D (gi s j)=qh (gl G Q):=by rw[HP.out];exact Iz (by rw[HGL.out];exact hgv)
      obtain⟨bg,og,hA,hcell⟩:=(HG.out.grow (HST.out.below.trans (HB.out.mono HST.out.below.size))).cells (by omega);subst hA;obtain⟨Ag,cg,d4,hrg⟩:=hcell Q hgv;have hgm:(gl G Q).length≤100000:=HGS.out _ (by rw[jq G Q (by rw[HGL.out];exact hgv)];exact List.getElem_mem _);obtain⟨g,hg⟩:∃ g,gl G Q=g:=⟨_,rfl⟩;obtain⟨gn,hgn⟩:∃ gn,g.length=gn:=⟨_,rfl⟩;rw[hg,hgn] at d4 hrg hgm;rw[hg] at hcf;have HCF:=zH hcf;have HRG:=zH hrg;have q0:(0:Int)≤(Q:Int):=by omega
      have q1:(Q:Int)<(nG:Int):=by omega
      clear hcell hg hgn hcf hrg
      go_wp2_with fail
      refine (Po Ag gn cg g wr HRG.out (by omega)).mono ?_
      rintro e w3 ⟨hgood,hbad⟩
      cases hset:qh g with
      | none =>
       obtain⟨rfl,h3⟩:=hbad hset;have HB3:=zH (btr HB.out h3.below);have HN:=zH (show d9 G [] l=none by rw[ku.out,HAT.out.nix HJS.out (HCF.out.trans hset)]);clear hgood hbad hset h3
       go_wp2
       go_ret2
       exact jI (HST.out.below.trans (HB3.out.mono HST.out.below.size)) HN.out
      | some d =>
       obtain⟨a3,k3,rfl,h3⟩:=hgood d hset;have CLD:=zH (HCF.out.trans hset);have HSD:=zH (nJ hset).1;have VA:=zH (sV (fun d hd=>(HGD.out d hd).2) CLD.out);have J2:d.length≤100000:=Nat.le_trans (nK HSD.out.nodup VA.out) yS.out;have HB3:=zH (btr HB.out h3.below);have afi:=zH (HRC.out.grow h3.below);have afj:=St.rd (h3.aB (aQ _).symm) (by omega);obtain⟨A3,hA3⟩:∃ A3:Option Addr,(a3.map fun b=>⟨b,0,none⟩)=A3:=⟨_,rfl⟩;unfold iB;obtain⟨dl,hdl⟩:∃ dl,d.length=dl:=⟨_,rfl⟩;rw[hA3,hdl] at afj;rw[hA3,hdl];rw[hdl] at J2;have Sc:=zH afj;clear hgood hbad hset h3 afj hA3 hdl d4
       by_cases hj0:j=0
       ·subst hj0;rw[Nat.add_zero] at d3;have afk:=zH (HAT.out.first HJS.out CLD.out HSD.out VA.out)
        go_wp2
        go_roundw
        case rel=>exact⟨1,dl,k3,A3,d,by omega,by omega,by go_num,rfl,HB3.out,Sc.out,afk.out⟩
        case measure=>simp[intOf];omega
       ·have e5:((j:Int)==0)=false:=by simp;omega
        have hcs:gD cur∧vv G cur:=by
         rcases HAT.out with ⟨h,_⟩ | ⟨_,h1,h2,_⟩
         ·exact absurd h hj0
         ·exact⟨h1,h2⟩
        have ZH:=zH hcs;clear hcs
        go_wp2_with fail
        refine (AQ A1 cl k cur A3 dl k3 d w3 afi.out Sc.out ZH.out.1 HSD.out (by omega) (by omega)).mono ?_
        rintro e w5 ⟨hb5,hgood,hbad⟩
        have HB5:=zH (btr HB3.out hb5)
        cases hres:rz cur d with
        | none =>
         obtain rfl:=hbad hres;have HN:=zH (show d9 G [] l=none by rw[ku.out,HAT.out.stop (by omega) HJS.out CLD.out hres]);clear hb5 hgood hbad hres
         go_wp2
         go_ret2
         exact jI (HST.out.below.trans (HB5.out.mono HST.out.below.size)) HN.out
        | some e =>
         obtain⟨A6,k6,rfl,hr6⟩:=hgood e hres;have hes:=GD hres;have hel:=BX ZH.out.2 VA.out hres;have Ub:e.length≤100000:=Nat.le_trans (nK hes.nodup hel) yS.out;have afl:=zH (HAT.out.next (by omega) HJS.out CLD.out hres hes hel);have HR6:=zH hr6;obtain⟨el,hell⟩:∃ el,e.length=el:=⟨_,rfl⟩;have HR7:=zH (show Rd w5 A6 el e by rw[←hell];exact HR6.out);rw[hell] at Ub ⊢;clear hb5 hgood hbad hres hes hel hr6 hell HR6
         go_wp2
         go_roundw
         case rel=>exact⟨j+1,el,k6,A6,e,by omega,by omega,by go_num,rfl,HB5.out,HR7.out,afl.out⟩
         case measure=>simp[intOf];omega
     ·have e3:decide ((Q:Int)<(nG:Int))=false:=by simp;omega
      obtain⟨t,ht⟩:∃ t:Nat,(Q:Int)-(nG:Int)=(t:Int):=⟨Q-nG,by omega⟩;have hti:t<i:=by omega
      have afm:bP G D (gi s j)=some (gl D t):=by rw[HP.out];exact Lx (by rw[HGL.out];exact ht) (by rw[LX.out];exact hti)
      obtain⟨b,hab⟩:∃ b,a=some b:=by
       cases a with
       | some b=>exact⟨b,rfl⟩
       | none=>have:=(HST.out.sat.aR.2.2.2.1 rfl).1;omega
      have haa:=HAA.out;rw[hab] at haa;simp only[Option.map_some] at haa;subst haa hab;obtain⟨A3,k3,hv,hr3⟩:=Ie.out.2 t (by rw[LX.out];exact hti);have d4:wo.cell? ⟨b,t,none⟩=some (.slice A3 (gl D t).length k3):=(HST.out.aW t (by rw[Ie.out.1,LX.out];exact hti)).trans hv;have d5:=(HB.out.cell (World.block_lt_of_cell? wo _ d4)).trans d4;have hsd:gD (gl D t)∧vv G (gl D t):=HGD.out _ (by rw[jq D t (by rw[LX.out];exact hti)];exact List.getElem_mem _);obtain⟨d,hd⟩:∃ d,gl D t=d:=⟨_,rfl⟩;obtain⟨dl,hdl⟩:∃ dl,d.length=dl:=⟨_,rfl⟩;rw[hd,hdl] at d5 hr3;rw[hd] at afm hsd;have CLD:=zH afm;have HSD:=zH hsd.1;have VA:=zH hsd.2;have J2:d.length≤100000:=Nat.le_trans (nK HSD.out.nodup VA.out) yS.out;rw[hdl] at J2;have Sc:=zH (hr3.grow HB.out);have HB3:=HB;have afi:=HRC;have t0:(0:Int)≤(t:Int):=by omega
      have t1:(t:Int)<(i:Int):=by omega
      clear hv hr3 d4 hsd hd hdl afm
      by_cases hj0:j=0
      ·subst hj0;rw[Nat.add_zero] at d3;have afk:=zH (HAT.out.first HJS.out CLD.out HSD.out VA.out)
       go_wp2
       go_roundw
       case rel=>exact⟨1,dl,k3,A3,d,by omega,by omega,by go_num,rfl,HB3.out,Sc.out,afk.out⟩
       case measure=>simp[intOf];omega
      ·have e5:((j:Int)==0)=false:=by simp;omega
       have hcs:gD cur∧vv G cur:=by
        rcases HAT.out with ⟨h,_⟩ | ⟨_,h1,h2,_⟩
        ·exact absurd h hj0
        ·exact⟨h1,h2⟩
       have ZH:=zH hcs;clear hcs
       go_wp2_with fail
       refine (AQ A1 cl k cur A3 dl k3 d wr afi.out Sc.out ZH.out.1 HSD.out (by omega) (by omega)).mono ?_
       rintro e w5 ⟨hb5,hgood,hbad⟩
       have HB5:=zH (btr HB3.out hb5)
       cases hres:rz cur d with
       | none =>
        obtain rfl:=hbad hres;have HN:=zH (show d9 G [] l=none by rw[ku.out,HAT.out.stop (by omega) HJS.out CLD.out hres]);clear hb5 hgood hbad hres
        go_wp2
        go_ret2
        exact jI (HST.out.below.trans (HB5.out.mono HST.out.below.size)) HN.out
       | some e =>
        obtain⟨A6,k6,rfl,hr6⟩:=hgood e hres;have hes:=GD hres;have hel:=BX ZH.out.2 VA.out hres;have Ub:e.length≤100000:=Nat.le_trans (nK hes.nodup hel) yS.out;have afl:=zH (HAT.out.next (by omega) HJS.out CLD.out hres hes hel);have HR6:=zH hr6;obtain⟨el,hell⟩:∃ el,e.length=el:=⟨_,rfl⟩;have HR7:=zH (show Rd w5 A6 el e by rw[←hell];exact HR6.out);rw[hell] at Ub ⊢;clear hb5 hgood hbad hres hes hel hr6 hell HR6
        go_wp2
        go_roundw
        case rel=>exact⟨j+1,el,k6,A6,e,by omega,by omega,by go_num,rfl,HB5.out,HR7.out,afl.out⟩
        case measure=>simp[intOf];omega
    ·obtain rfl:j=ln:=by omega
     have hcs:gy G D s=some cur:=by
      rcases HAT.out with ⟨h,_⟩ | ⟨_,_,_,h⟩
      ·exact absurd h hl0
      ·rw[h,List.drop_of_length_le (by rw[fP.out];exact Nat.le_refl _)];rfl
     have aff:=zH (HGD.out.snoc hcs);have ZJ:=zH (show d9 G [] l=d9 G (D++[cur]) (l.drop (i+1)) by rw[ku.out,hcs]);have lU:=zH (HST.out.grow HB.out);have ZM:=zH (Ie.out.grow HB.out);have Si:=zH (HNI.out.grow HST.out.adl HB.out);have haa:=HAA.out;subst haa;clear hcs
     go_wp2_with (at_builtin;refine tK rfl _ _ 37 27 (.slice none 0 0) 24 rfl Tryz.underlying37 Tryz.jB rfl lU.out rfl (.slice A1 cl k) rfl rfl (by omega) (by simp only[maxLen];omega) ?_;intro b' c' w3 h3 hk3 hq3;have H3:=zH h3;have Np:=zH hk3;have HQ3:=zH hq3;clear h3 hk3 hq3)
     have ZN:Pt w3 (some b'):=fun b0 e=>by
      cases e
      exact fun i u hu=>HQ3.out (fun u=>∀ x,u≠.int .i64 x) ZM.out.adk (by simp) (by simp[Value.cells]) (fun b0 i u e hu=>Si.out b0 e i u hu) i u hu
     have afn:cur.length=cl:=HRC.out.len;have hrc:Rd wr A1 cur.length cur:=by rw[afn];exact HRC.out
     have ZO:gY w3 (V++[.slice A1 cl k]) (D++[cur]):=(ZM.out.GQ Si.out Np.out).snoc (hrc.GQ Si.out Np.out) k cl afn;have amN:=zH ZN;have amO:=zH ZO;clear ZN afn hrc ZO
     go_wp2
     go_roundw
     case rel=>exact⟨i+1,some b',c',V++[Value.slice A1 cl k],D++[cur],by omega,by go_num,rfl,(by rw[List.length_append,LX.out];rfl:(D++[cur]).length=i+1),H3.out,amO.out,amN.out,aff.out,ZJ.out⟩
     case measure=>simp[intOf];omega
  ·obtain rfl:i=nL:=by omega
   have hfin:d9 G [] l=some D:=by
    have:=FR.out
    rwa [List.drop_of_length_le (by rw[LU.out];exact Nat.le_refl _)] at this
   have qA:=zH hfin;have hrd:=Ie.out.tQ HST.out (by omega);have Gs:=zH hrd;have hnc:=HST.out.sat.aR.2.1;clear hfin hrd
   go_wp2
   go_ret2
   refine⟨HST.out.below,fun E hE=>?_,fun hE=>(by rw[qA.out] at hE;cases hE)⟩;rw[qA.out] at hE
   cases hE
   exact⟨_,c,by rw[LX.out];rfl,by rw[LX.out];exact Gs.out,by rw[LX.out];exact hnc⟩
end Go.Proofs.YthbbmdnfkkffjaaGreat

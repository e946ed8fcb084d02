/-
  Parts of the proof, joined by program: amf, ajS, ajT, ajU, ajV.
-/
import Derived.Test.YthbbmdnfkkffjaaGreatY32
import Derived.Test.YthbbmdnfkkffjaaGreatY16
import Derived.Test.YthbbmdnfkkffjaaGreatY01
import Derived.Deep.RegionLaw
import Derived.BigRegion
import Derived.Lib.Hide
set_option maxHeartbeats 8000000
set_option maxRecDepth 100000
namespace Go.Proofs.YthbbmdnfkkffjaaGreat
open Go.RowKit Go.Proofs.aC Go.Proofs.au
theorem Tryz.Zg:(Tryz.prog.info? 27).map (fun i=>(i.zero,i.size,i.bytes))=some (some (.slice none 0 0),1,24):=by kernel_rfl
theorem bC.push {B:Nat} {w0 w:World} {p:Nat} {L:sK} {S:SM} {F:HP} (hw:L.W.map (fun x=>x.2.2)=S.aj) {b' c':Nat}
  (h:St B w0 w (star (sl (some b') (L.W.length+1) c' 27 1 (outer L.W++[.slice none 0 0])) (star (star (pt p 116 (storeCells L S)) (star (bO 3 L.wv L.wc S.words) (star (bO 3 L.bv L.bc S.begins) (star (bO 3 L.sv L.sc S.short) (stars (inner L.W)))))) F))) :
  w.cell? ⟨p,3,none⟩=some (iB L.av L.W.length L.ac)∧w.frozen? ⟨p,3,none⟩=false ∧
  bC B w0 (w.setCell ⟨p,3,none⟩ (.slice (some ⟨b',0,none⟩) (L.W.length+1) c')) p { L with av:=some b',ac:=c',W:=L.W++[(none,0,[])] } { S with aj:=S.aj++[[]] } F:=by
 have h1:St B w0 w (star (pt p 116 (storeCells L S)) (star (star (sl (some b') (L.W.length+1) c' 27 1 (outer L.W++[.slice none 0 0])) (star (bO 3 L.wv L.wc S.words) (star (bO 3 L.bv L.bc S.begins) (star (bO 3 L.sv L.sc S.short) (stars (inner L.W)))))) F)):=h.aB (by ac_rfl);refine⟨by rw[h1.aG 3];rfl,h1.bU 3,?_,by simp[hw]⟩;refine (h1.bM 3 (.slice (some ⟨b',0,none⟩) (L.W.length+1) c')).aB ?_;unfold iY;rw[Lc,iW,Ld];have e1:stars (inner [((none:Option Nat),0,([]:List Nat))])=emp:=by simp[inner,nA,iX,Lb]
 have e2:(storeCells L S).set 3 (.slice (some ⟨b',0,none⟩) (L.W.length+1) c')=storeCells { L with av:=some b',ac:=c',W:=L.W++[(none,0,[])] } { S with aj:=S.aj++[[]] }:=by simp only[storeCells,iB,List.set_cons_succ,List.set_cons_zero,List.length_append,List.length_singleton,Option.map_some];rfl
 have e3:({ S with aj:=S.aj++[[]] }:SM).begins=S.begins:=rfl;have e4:({ S with aj:=S.aj++[[]] }:SM).words=S.words:=rfl;have e5:({ S with aj:=S.aj++[[]] }:SM).short=S.short:=rfl;rw[e1,aQ,e2,e3,e4,e5];simp only[List.length_append,List.length_singleton,outer,List.map_cons,List.map_nil,List.length_nil];simp only[show iB none 0 0=Value.slice none 0 0 from rfl]
 ac_rfl
theorem JJ {W:List (Option Nat×Nat×List Nat)} {i:Nat} {x:Option Nat×Nat×List Nat} (h:W[i]?=some x):(inner W)[i]?=some (bO 3 x.1 x.2.1 (iX x.2.2)):=by simp[inner,h]
theorem Vv {W:List (Option Nat×Nat×List Nat)} {i:Nat} {x:Option Nat×Nat×List Nat} (h:W[i]?=some x):(outer W)[i]?=some (iB x.1 x.2.2.length x.2.1):=by simp[outer,h]
theorem Vw {W:List (Option Nat×Nat×List Nat)} {i:Nat} (x:Option Nat×Nat×List Nat):inner (W.set i x)=(inner W).set i (bO 3 x.1 x.2.1 (iX x.2.2)):=by simp[inner,List.map_set]
theorem Vx {W:List (Option Nat×Nat×List Nat)} {i:Nat} (x:Option Nat×Nat×List Nat):outer (W.set i x)=(outer W).set i (iB x.1 x.2.2.length x.2.1):=by simp[outer,List.map_set]
def hole (p:Nat) (L:sK) (S:SM) (i:Nat) (F:HP):HP :=
 star (star (pt p 116 (storeCells L S)) (star (bO 3 L.wv L.wc S.words) (star (bO 3 L.bv L.bc S.begins) (star (sl L.av L.W.length L.ac 27 1 (outer L.W)) (star (bO 3 L.sv L.sc S.short) (stars ((inner L.W).eraseIdx i))))))) F
theorem bC.focus {B:Nat} {w0 w:World} {p:Nat} {L:sK} {S:SM} {F:HP} (h:bC B w0 w p L S F) {i:Nat} {x:Option Nat×Nat×List Nat} (hi:L.W[i]?=some x) :
  St B w0 w (star (bO 3 x.1 x.2.1 (iX x.2.2)) (hole p L S i F)):=by
 refine h.st.aB ?_;unfold iY hole;rw[(dW (JJ hi) emp).1]
 ac_rfl
theorem Gi {B:Nat} {w0 w:World} {p:Nat} {L:sK} {S:SM} {F:HP} {P:HP} {i ab:Nat} (h:St B w0 w (star P (hole p L S i F))) (ha:L.av=some ab) {x:Option Nat×Nat×List Nat} (hi:L.W[i]?=some x) :
  w.cell? ⟨p,3,none⟩=some (.slice (some ⟨ab,0,none⟩) L.W.length L.ac)∧w.cell? ⟨ab,i,none⟩=some (iB x.1 x.2.2.length x.2.1)∧w.frozen? ⟨ab,i,none⟩=false:=by
 have h1:St B w0 w (star (pt p 116 (storeCells L S)) (star P (star (star (bO 3 L.wv L.wc S.words) (star (bO 3 L.bv L.bc S.begins) (star (sl L.av L.W.length L.ac 27 1 (outer L.W)) (star (bO 3 L.sv L.sc S.short) (stars ((inner L.W).eraseIdx i)))))) F))):=h.aB (by unfold hole;ac_rfl);have h2:St B w0 w (star (sl L.av L.W.length L.ac 27 1 (outer L.W)) (star P (star (star (pt p 116 (storeCells L S)) (star (bO 3 L.wv L.wc S.words) (star (bO 3 L.bv L.bc S.begins) (star (bO 3 L.sv L.sc S.short) (stars ((inner L.W).eraseIdx i)))))) F))):=h.aB (by unfold hole;ac_rfl);rw[ha] at h2;refine⟨by rw[h1.aG 3];simp[storeCells,iB,ha],?_,h2.bZ i⟩;rw[h2.aW i (by rw[Ao];exact (List.getElem?_eq_some_iff.1 hi).1),Vv hi]
theorem bC.unfocus {B:Nat} {w0 w:World} {p:Nat} {L:sK} {S:SM} {F:HP} {i ab:Nat} {a:Option Nat} {c:Nat} {l:List Nat} (h:St B w0 w (star (bO 3 a c (iX l)) (hole p L S i F))) (hw:L.W.map (fun x=>x.2.2)=S.aj) (ha:L.av=some ab) (hi:i<L.W.length) :
  bC B w0 (w.setCell ⟨ab,i,none⟩ (iB a l.length c)) p { L with W:=L.W.set i (a,c,l) } { S with aj:=S.aj.set i l } F:=by
 have h2:St B w0 w (star (sl L.av L.W.length L.ac 27 1 (outer L.W)) (star (bO 3 a c (iX l)) (star (star (pt p 116 (storeCells L S)) (star (bO 3 L.wv L.wc S.words) (star (bO 3 L.bv L.bc S.begins) (star (bO 3 L.sv L.sc S.short) (stars ((inner L.W).eraseIdx i)))))) F))):=h.aB (by unfold hole;ac_rfl);rw[ha] at h2;refine⟨(h2.fH i (iB a l.length c) (by rw[Ao];exact hi)).aB ?_,by simp[List.map_set,hw]⟩;obtain⟨x,hx⟩:∃ x,L.W[i]?=some x:=⟨L.W[i],by simp[hi]⟩;unfold iY;simp only[Vw,Vx,List.length_set];rw[(dW (JJ hx) (bO 3 a c (iX l))).2];have e2:storeCells { L with W:=L.W.set i (a,c,l) } { S with aj:=S.aj.set i l }=storeCells L S:=by simp only[storeCells,List.length_set];rfl
 have e3:({ S with aj:=S.aj.set i l }:SM).begins=S.begins:=rfl;have e4:({ S with aj:=S.aj.set i l }:SM).words=S.words:=rfl;have e5:({ S with aj:=S.aj.set i l }:SM).short=S.short:=rfl;rw[e2,e3,e4,e5,ha]
 ac_rfl
section
variable {B:Nat} {w0 w:World} {p:Nat} {L:sK} {S:SM} {F:HP}
theorem JK (l:Int) (ref:Nat) (h:bC B w0 w p L S F) (h1:-65536≤l) (h2:l≤65536) (_hr:ref≤1000000) (hl:S.aj.length≤1000000) (hs:∀ x∈S.aj,x.length≤1000000) :
  Calls Tryz.prog 83 #[.pointer (some ⟨p,0,none⟩),.int .i64 l,.int .i64 ref] w fun e w' =>
   e=.returned (.tuple #[])∧∃ L',bC B w0 w' p L' (S.watch l ref) F∧Hid (∀ j,j<L.W.length→j≠idx l→L'.W[j]?=L.W[j]?):=by
 have hi:=Gf h1 h2;have HI:Hid (S.watch l ref={ S with aj:=BN S.aj (idx l) ref }):=rfl;obtain⟨i,hii⟩:∃ i,idx l=i:=⟨_,rfl⟩;have hix:=Vu l w h1 h2;rw[hii] at hix hi;have HII:=zH hii;clear hii;have HIX:=zH hix;clear hix;obtain⟨t,ht⟩:∃ t,mO i=t+1:=⟨mO i-1,by have:=Gg i;omega⟩
 have hor:bits .or .u64 (i:Int) 1=(t:Int):=by
  rw[CG i (by omega)];unfold mO at ht
  split at ht <;> simp_all
 have hti:i≤t:=by have:=Gg i;omega
 have htb:t≤131074:=by unfold mO at ht;split at ht <;> omega
 have HT:=zH ht;clear ht;have HS:=zH hs;clear hs
 go_enter Tryz.func83,Tryz.ntmps83
 go_wp2_with (go_at_call 101;refine (HIX.out).mono ?_;rintro e w' ⟨rfl,rfl⟩)
 go_loopg [9] (t+1-S.aj.length) (fun g _ wr=>∃ (k:Nat) (L1:sK),Hid (g=t+1-(S.aj.length+k))∧(k=0∨S.aj.length+k≤t+1)∧bC B w0 wr p L1 { S with aj:=S.aj++List.replicate k [] } F∧Hid (∀ j,j<L.W.length→L1.W[j]?=L.W[j]?))
 case atStart=>exact⟨0,L,rfl,.inl rfl,by simpa using h,(fun _ _=>rfl:∀ j,j<L.W.length→L.W[j]?=L.W[j]?)⟩
 case round =>
  obtain⟨k,L1,hg,hk,hst,HLK⟩:=hrel;have hlen:=hst.ame;rw[List.length_append,List.length_replicate] at hlen;obtain⟨n,hn⟩:∃ n,L1.W.length=n:=⟨_,rfl⟩;have c3:=hst.qJ.aG 3;simp only[storeCells,iB,hn] at c3;have HN:=zH hn;have HL:=zH hlen;rw[hn] at hlen;clear hn
  by_cases hlt:n≤t
  ·have hlt':(n:Int)≤(t:Int):=by omega
   have ho:=hst.Zf;rw[HN.out] at ho;clear hlen
   go_wp2_with (at_builtin;refine aO rfl _ _ 37 27 (.slice none 0 0) 24 rfl Tryz.underlying37 Tryz.Zg rfl ho rfl (.slice none 0 0) rfl rfl (by omega) (by simp only[maxLen];omega) ?_;intro b' c' w' h2;have h3:=bC.push (L:=L1) (S:={ S with aj:=S.aj++List.replicate k [] }) hst.ws (by rw[HN.out];exact h2);have c4:=h3.1;have f4:=h3.2.1;have Bv:=h3.2.2;clear h3 h2)
   go_roundg (t+1-(S.aj.length+(k+1)))
   case measure=>have:=hg.out;have:=HL.out;have:=HN.out;omega
   case rel =>
    refine⟨k+1,{ L1 with av:=some b',ac:=c',W:=L1.W++[(none,0,[])] },rfl,.inr (by have:=HL.out;have:=HN.out;omega),?_,?_⟩
    ·rw[HN.out] at Bv;rw[List.replicate_succ'];simpa [List.append_assoc] using Bv
    ·refine (fun j hj=>?_:∀ j,j<L.W.length→_);have h9:=HLK.out j hj;rw[List.getElem?_append_left (by rw[List.getElem?_eq_getElem hj] at h9;exact (List.getElem?_eq_some_iff.1 h9).1)];exact h9
  ·have hlt':(t:Int)<(n:Int):=by omega
   have hnb:n≤3000000:=by omega
   clear hlen;obtain⟨x,hx⟩:∃ x,L1.W[i]?=some x:=⟨L1.W[i]'(by rw[HN.out];omega),by simp⟩;have hin:i<n:=by omega
   have hii:(i:Int)<(n:Int):=by omega
   obtain⟨ab,hab⟩:∃ ab,L1.av=some ab:=by
    obtain⟨_,_,_,hnone,_⟩:=hst.Zf.sat.aR
    cases e:L1.av with
    | none=>have:=(hnone e).1;have:=HN.out;omega
    | some ab=>exact⟨ab,rfl⟩
   have hfo:=hst.focus hx;have hcs:=Gi hfo hab hx
   have hxl:x.2.2=(S.aj++List.replicate k []).getD i []:=by
    have:=hst.ws;simp only at this;rw[←this];simp[hx]
   have hxb:x.2.2.length≤1000000:=by
    rw[hxl,List.getD_eq_getElem?_getD,List.getElem?_append]
    split
    ·rename_i hh;simp only[List.getElem?_eq_getElem hh,Option.getD_some];exact HS.out _ (List.getElem_mem hh)
    ·rw[List.getElem?_replicate];split <;> simp
   obtain⟨xa,xc,xl⟩:=x;have HW:=zH hst.ws;have HH:=zH hst;obtain⟨m,hm⟩:∃ m,xl.length=m:=⟨_,rfl⟩;have HM:=zH hm;simp only[iB,hm] at hcs hxb;rw[HN.out] at hcs;obtain⟨d3,d4,d5⟩:=hcs;clear hm c3 hst
   have hkeep:∀ (b' c':Nat) (w':World),St B w0 w' (star (bO 3 (some b') c' (iX xl++[(ref:Int)])) (hole p L1 { S with aj:=S.aj++List.replicate k [] } i F)) →
     w'.cell? ⟨p,3,none⟩=some (.slice (some ⟨ab,0,none⟩) n L1.ac)∧w'.cell? ⟨ab,i,none⟩=some (.slice (xa.map fun b=>⟨b,0,none⟩) m xc)∧w'.frozen? ⟨ab,i,none⟩=false:=by
    intro b' c' w' h2;have:=Gi h2 hab hx;simp only[iB,HM.out] at this;rw[HN.out] at this;exact this
   have HK:=zH hkeep
   have hne:p≠ab:=by
    have h9:St B w0 wr (star (pt p 116 (storeCells L1 { S with aj:=S.aj++List.replicate k [] })) (star (sl (some ab) L1.W.length L1.ac 27 1 (outer L1.W)) (star (bO 3 xa xc (iX xl)) (star (star (bO 3 L1.wv L1.wc { S with aj:=S.aj++List.replicate k [] }.words) (star (bO 3 L1.bv L1.bc { S with aj:=S.aj++List.replicate k [] }.begins) (star (bO 3 L1.sv L1.sc { S with aj:=S.aj++List.replicate k [] }.short) (stars ((inner L1.W).eraseIdx i))))) F)))):=hfo.aB (by unfold hole;rw[hab];simp only[];ac_rfl);exact h9.sat.gW
   have hne':ab≠p:=Ne.symm hne;have n1:=World.new_ne wr _ d3;have n2:=World.new_ne wr _ d4;have e3:∀ o,(wr.alloc o).cell? ⟨p,3,none⟩=some (.slice (some ⟨ab,0,none⟩) n L1.ac):=fun o=>(World.cell?_alloc_some _ _ _ (by rw[d3];rfl)).trans d3;have e4:∀ o,(wr.alloc o).cell? ⟨ab,i,none⟩=some (.slice (xa.map fun b=>⟨b,0,none⟩) m xc):=fun o=>(World.cell?_alloc_some _ _ _ (by rw[d4];rfl)).trans d4;have z2:ab<wr.heap.size:=World.block_lt_of_cell? wr _ d4;clear hkeep
   go_wp2
   go_region_law ((refine tJ (by rfl) _ _ _ _ (by rfl) Tryz.underlying27 Tryz.gQ (hfo.drew.alloc _) m (by rw[Gh];exact HM.out) (by rfl) _ (ref:Int) (by rfl) (by simp) (by omega) ?_;intro b' c' w1 h2;obtain⟨g3,g4,g5⟩:=HK.out _ _ _ h2))
   all_goals
    go_end0
    refine⟨rfl,{ L1 with W:=L1.W.set i (some b',c',xl++[ref]) },?_,?_⟩
    rotate_left
    ·refine (fun j hj hji=>?_:∀ j,j<L.W.length→j≠idx l→_);rw[HII.out] at hji;rw[List.getElem?_set_ne (fun e=>hji e.symm)];exact HLK.out j hj
    have h9:=bC.unfocus (p:=p) (L:=L1) (S:={ S with aj:=S.aj++List.replicate k [] }) (F:=F) (i:=i) (ab:=ab) (a:=some b') (c:=c') (l:=xl++[ref]) (by rw[show iX (xl++[ref])=iX xl++[(ref:Int)] from by simp[iX]];exact h2) HW.out hab (by rw[HN.out];exact hin);have hk2:k=t+1-S.aj.length:=by have:=HL.out;have:=HN.out;omega
    rw[HI.out,HII.out];have amg:La S.aj (mO i)=S.aj++List.replicate k []:=by rw[HT.out,La,hk2]
    rw[show BN S.aj i ref=(S.aj++List.replicate k []).set i (xl++[ref]) from by unfold BN;rw[amg,←hxl]];have hlen1:(xl++[ref]).length=m+1:=by have:=HM.out;simp;omega
    simp only[iB,hlen1,Option.map_some] at h9;exact h9
end
end Go.Proofs.YthbbmdnfkkffjaaGreat
namespace Go.Proofs.au
def Cl.aeV (c:Cl) (i:Nat):Cl:=⟨i,c.q,c.lits⟩
def Cl.aeW (c:Cl) (i:Nat):Cl:=⟨c.p,i,c.lits⟩
def SM.put (S:SM) (ref:Nat) (c:Cl):SM:={ S with cls:=S.cls.set ref c }
theorem SM.Gj (S:SM) (ref:Nat) (c:Cl):(S.put ref c).cls.length=S.cls.length:=by simp[SM.put]
theorem SM.Zh (S:SM) {ref:Nat} (c:Cl) (h:ref<S.cls.length) (i:Nat):(S.put ref c).cl i=if i=ref then c else S.cl i:=by
 unfold SM.cl SM.put;simp only[List.getD_eq_getElem?_getD,List.getElem?_set]
 split
 ·rename_i e;subst e;simp
 ·rename_i e;rw[if_neg (fun x=>e x.symm)]
theorem Df {l:List Cl} {ref:Nat} {c:Cl} (hc:c.lits.length=(l.getD ref default).lits.length):((l.set ref c).flatMap Cl.words).length=(l.flatMap Cl.words).length:=by
 induction l generalizing ref with
 | nil=>simp
 | cons d l ih =>
  cases ref with
  | zero =>
   simp at hc;simp only[List.set_cons_zero,List.flatMap_cons,List.length_append,Cl.mZ,hc]
  | succ ref =>
   simp only[List.set_cons_succ,List.flatMap_cons,List.length_append];rw[ih (by simpa using hc)]
theorem SM.Bg (S:SM) {ref:Nat} (c:Cl) (h:ref<S.cls.length):(S.put ref c).words=(S.cls.take ref).flatMap Cl.words++(c.words++(S.cls.drop (ref+1)).flatMap Cl.words):=by
 unfold SM.words SM.put;rw[List.set_eq_take_append_cons_drop,if_pos h,List.flatMap_append,List.flatMap_cons]
def NA (S:SM) (ref:Nat) (l:Int):Bool:=gi (S.cl ref).lits (S.cl ref).p==l
def jl (S:SM) (ref:Nat) (l:Int):Nat:=if NA S ref l then (S.cl ref).q else (S.cl ref).p
def uX (S:SM) (ref:Nat) (l:Int) (i:Nat):SM:=if NA S ref l then S.put ref ((S.cl ref).aeV i) else S.put ref ((S.cl ref).aeW i)
def fits (R:RM) (lits:List Int) (q i:Nat):Bool:=(i != q)&&decide (0≤R.is (gi lits i))
def Ap (R:RM) (lits:List Int) (q:Nat):Option Nat:=(List.range lits.length).find? (fits R lits q)
structure Look where
 moved:Bool
 bad:Bool
 S:SM
 R:RM
def TS (S:SM) (R:RM) (ref:Nat) (l:Int):Look :=
 let q:=jl S ref l
 let lits:=(S.cl ref).lits
 let first:=gi lits q
 if 0<R.is first then ⟨false,false,S,R⟩
 else match Ap R lits q with
  | some i=>⟨true,false,(uX S ref l i).watch (gi lits i) ref,R⟩
  | none=>if R.is first<0 then ⟨false,true,S,R⟩ else ⟨false,false,S,R.set first⟩
def SM.setW (S:SM) (i:Nat) (l:List Nat):SM:={ S with aj:=S.aj.set i l }
def SM.jm (S:SM) (i:Nat):List Nat:=S.aj.getD i []
def RM.lit (R:RM):Int:=- gi R.out R.next
def RM.step (R:RM):RM:={ R with next:=R.next+1 }
structure Cl.ok (c:Cl):Prop where
 lits:∀ x∈c.lits,fC x=true
 nodup:c.lits.Nodup
 apart:∀ x∈c.lits,-x∉c.lits
 p:2≤c.lits.length→c.p<c.lits.length
 q:2≤c.lits.length→c.q<c.lits.length
 pq:2≤c.lits.length→c.p≠c.q
def Cl.aj (c:Cl) (i:Nat):Prop:=2≤c.lits.length∧(idx (gi c.lits c.p)=i∨idx (gi c.lits c.q)=i)
structure SM.Inv (S:SM):Prop where
 most:S.most≤262144
 words:S.words.length≤S.most
 cl:∀ i,i<S.cls.length→(S.cl i).ok
 KR:S.aj.length≤131074
 watch:∀ i ref,ref∈S.jm i↔ref<S.cls.length∧(S.cl ref).aj i
 nodup:∀ i,(S.jm i).Nodup
structure RM.Inv (R:RM):Prop where
 ok:R.ok
 lits:∀ x∈R.out,fC x=true
 pos:∀ l,fC l=true→(R.is l=1↔l∈R.out)
 next:R.next≤R.out.length
 nodup:R.out.Nodup
theorem RM.aeX (R:RM) {l:Int} (h:l≠0):R.is (-l)=- R.is l:=by
 unfold RM.is
 by_cases h1:l<0
 ·rw[if_pos h1,if_neg (by omega)];simp
 ·rw[if_neg h1,if_pos (by omega)];simp
theorem uY {l:Int} (h:fC l=true):fC (-l)=true:=by
 rw[bD] at h ⊢;omega
theorem RM.Zi {R:RM} (h:R.ok) (l:Int):-1≤R.is l∧R.is l≤1:=by
 unfold RM.is
 split
 ·have:=h.val (-l).toNat;omega
 ·exact h.val l.toNat
theorem RM.Inv.neg {R:RM} (h:R.Inv) {l:Int} (hl:fC l=true):R.is l=-1↔-l∈R.out:=by
 rw[←h.pos (-l) (uY hl),R.aeX (bD.1 hl).1];omega
theorem RM.Inv.zero {R:RM} (h:R.Inv) {l:Int} (hl:fC l=true):R.is l=0↔l∉R.out∧-l∉R.out:=by
 rw[←h.pos l hl,←h.neg hl];have:=R.Zi h.ok l;omega
theorem RM.Inv.apart {R:RM} (h:R.Inv) {l:Int} (hl:l∈R.out):-l∉R.out:=by
 have h1:=h.lits l hl;intro h2;have:=(h.pos l h1).2 hl;have:=(h.neg h1).2 h2;omega
theorem pY:∀ (n:Nat) (l:List Nat),l.Nodup→(∀ x∈l,x<n)→l.length≤n
 | 0,l,_,hb=>by
  cases l with
  | nil=>simp
  | cons x r=>have:=hb x (by simp);omega
 | n+1,l,h,hb=>by
  by_cases hm:n∈l
  ·have h1:=pY n (l.erase n) (h.erase n) (fun x hx=>by
    have:=(h.mem_erase_iff).1 hx;have:=hb x this.2
    omega)
   rw[List.length_erase_of_mem hm] at h1;omega
  ·have h1:=pY n l h (fun x hx=>by
    have:=hb x hx;have:x≠n:=fun e=>hm (e▸hx)
    omega)
   omega
theorem RM.Inv.vars {R:RM} (h:R.Inv):(R.out.map Int.natAbs).Nodup:=by
 have key:∀ l:List Int,l.Nodup→(∀ x∈l,-x∉l)→(∀ x∈l,x≠0)→(l.map Int.natAbs).Nodup:=by
  intro l
  induction l with
  | nil=>intros;simp
  | cons a r ih =>
   intro hn ha h0;rw[List.map_cons,List.nodup_cons];rw[List.nodup_cons] at hn;refine⟨fun hm=>?_,ih hn.2 (fun x hx hx'=>ha x (by simp[hx]) (by simp[hx'])) (fun x hx=>h0 x (by simp[hx]))⟩;obtain⟨b,hb,he⟩:=List.mem_map.1 hm;rcases Int.natAbs_eq_natAbs_iff.1 he with e | e
   ·exact hn.1 (e▸hb)
   ·exact ha a (by simp) (by rw[←e];simp[hb])
 exact key _ h.nodup (fun x hx=>h.apart hx) (fun x hx=>(bD.1 (h.lits x hx)).1)
theorem RM.Inv.room {R:RM} (h:R.Inv):R.out.length≤65537:=by
 have:=pY 65537 _ h.vars (fun x hx=>by
  obtain⟨b,hb,rfl⟩:=List.mem_map.1 hx;have:=bD.1 (h.lits b hb)
  omega)
 simpa using this
theorem qP {xs:List Int} {k:Nat} {v:Int} (h:k<xs.length):gi (xs.set k v) k=v:=by simp[gi,List.getD_eq_getElem?_getD,h]
theorem nE {xs:List Int} {k i:Nat} {v:Int} (h:k≠i):gi (xs.set k v) i=gi xs i:=by simp[gi,List.getD_eq_getElem?_getD,h]
theorem RM.Zj {R:RM} (ho:R.ok) {l:Int} (hl:fC l=true) (x:Int) (hx:fC x=true):(R.set l).is x=if x=l then 1 else if x=-l then -1 else R.is x:=by
 have h1:=bD.1 hl;have h2:=bD.1 hx;have hlen:=ho.len;unfold RM.is RM.set;simp only
 by_cases hl0:l<0
 ·rw[if_pos hl0]
  by_cases hx0:x<0
  ·rw[if_pos hx0,if_pos hx0]
   by_cases he:x=l
   ·subst he;rw[if_pos rfl,qP (by omega)];rfl
   ·rw[if_neg he,if_neg (by omega),nE (by omega)]
  ·rw[if_neg hx0,if_neg hx0]
   by_cases he:x=-l
   ·rw[if_neg (by omega),if_pos he,he,qP (by omega)]
   ·rw[if_neg (by omega),if_neg he,nE (by omega)]
 ·rw[if_neg hl0]
  by_cases hx0:x<0
  ·rw[if_pos hx0,if_pos hx0]
   by_cases he:x=-l
   ·rw[if_neg (by omega),if_pos he,he];rw[show (- -l).toNat=l.toNat from by simp,qP (by omega)]
   ·rw[if_neg (by omega),if_neg he,nE (by omega)]
  ·rw[if_neg hx0,if_neg hx0]
   by_cases he:x=l
   ·subst he;rw[if_pos rfl,qP (by omega)]
   ·rw[if_neg he,if_neg (by omega),nE (by omega)]
theorem RM.Inv.set {R:RM} (h:R.Inv) {l:Int} (hl:fC l=true) (h0:R.is l=0):(R.set l).Inv:=by
 have hz:=(h.zero hl).1 h0;have hr:=h.room;have hout:(R.set l).out=R.out++[l]:=rfl;refine⟨R.aeU h.ok l (by omega),?_,?_,?_,?_⟩
 ·intro x hx;rw[hout] at hx;rcases List.mem_append.1 hx with hx | hx
  ·exact h.lits x hx
  ·rw[List.mem_singleton.1 hx];exact hl
 ·intro x hx;have:=(bD.1 hl).1;rw[RM.Zj h.ok hl x hx,hout,List.mem_append,List.mem_singleton]
  by_cases he:x=l
  ·simp[he]
  ·rw[if_neg he]
   by_cases he':x=-l
   ·rw[if_pos he']
    constructor
    ·intro e;omega
    ·rintro (e | e)
     ·rw[he'] at e;exact absurd e hz.2
     ·exact absurd e he
   ·rw[if_neg he',h.pos x hx]
    constructor
    ·exact fun e=>.inl e
    ·rintro (e | e)
     ·exact e
     ·exact absurd e he
 ·rw[hout];have:=h.next;show R.next≤_;simp;omega
 ·rw[hout];rw[List.nodup_append];refine⟨h.nodup,by simp,?_⟩;intro a ha b hb e;rw[List.mem_singleton.1 hb] at e;exact hz.1 (e▸ha)
theorem kQ {a b:Int} (h:idx a=idx b):a=b:=by
 unfold idx at h
 split at h <;> split at h <;> omega
theorem SM.sM (S:SM) (x:Int) (ref j:Nat):(S.watch x ref).jm j=if j=idx x then S.jm j++[ref] else S.jm j:=by
 have hp:∀ k,(La S.aj (mO (idx x))).getD k []=S.aj.getD k []:=by
  intro k;unfold La;simp only[List.getD_eq_getElem?_getD,List.getElem?_append]
  split
  ·rfl
  ·rename_i h;rw[List.getElem?_replicate,List.getElem?_eq_none (by omega)]
   split <;> rfl
 have hl:idx x<(La S.aj (mO (idx x))).length:=by
  rw[CF];have:=Gg (idx x);omega
 unfold SM.jm SM.watch BN;simp only;rw[List.getD_eq_getElem?_getD,List.getElem?_set]
 by_cases h:idx x=j
 ·subst h;rw[if_pos rfl,if_pos hl,if_pos rfl,hp];rfl
 ·rw[if_neg h,if_neg (fun e=>h e.symm),←List.getD_eq_getElem?_getD,hp]
theorem SM.jG (S:SM) (x:Int) (ref:Nat):(S.watch x ref).aj.length=max S.aj.length (mO (idx x)):=by
 unfold SM.watch BN;rw[List.length_set,CF]
theorem SM.JL (S:SM) (i j:Nat) (l:List Nat):(S.setW i l).jm j=if i=j∧i<S.aj.length then l else S.jm j:=by
 unfold SM.jm SM.setW;simp only[List.getD_eq_getElem?_getD,List.getElem?_set]
 by_cases h:i=j
 ·subst h
  by_cases h2:i<S.aj.length
  ·simp[h2]
  ·simp[h2]
 ·simp[h]
theorem SM.abS {S:SM} {i ref:Nat} (h:ref∈S.jm i):i<S.aj.length:=by
 unfold SM.jm at h;rw[List.getD_eq_getElem?_getD] at h
 cases hh:S.aj[i]? with
 | none=>rw[hh] at h;simp at h
 | some x=>exact (List.getElem?_eq_some_iff.1 hh).1
theorem SM.BO (S:SM) {ref:Nat} (c:Cl) (hc:c.lits.length=(S.cl ref).lits.length):(S.put ref c).words.length=S.words.length:=by
 unfold SM.words SM.put;exact Df hc
theorem SM.Inv.refs {S:SM} (h:S.Inv):S.cls.length≤262144:=by
 have:=S.wM;have:=h.words;have:=h.most;omega
theorem SM.Inv.short {S:SM} (h:S.Inv) (x:List Nat) (hx:x∈S.aj):x.length≤262144:=by
 obtain⟨i,hi,rfl⟩:=List.getElem_of_mem hx;have e:S.jm i=S.aj[i]:=by unfold SM.jm;simp[hi]
 have:=pY S.cls.length (S.jm i) (h.nodup i) (fun r hr=>((h.watch i r).1 hr).1);rw[e] at this;have:=h.refs;omega
theorem nZ {l:List Int} {i:Nat} (h:i<l.length):gi l i∈l:=by rw[dh l i h];exact List.getElem_mem h
theorem yO {l:List Int} (hn:l.Nodup) {i j:Nat} (hi:i<l.length) (hj:j<l.length) (h:gi l i=gi l j):i=j:=by
 rw[dh l i hi,dh l j hj] at h;have hp:=List.pairwise_iff_getElem.1 hn;rcases Nat.lt_trichotomy i j with hlt | he | hgt
 ·exact absurd h (hp i j hi hj hlt)
 ·exact he
 ·exact absurd h.symm (hp j i hj hi hgt)
theorem SM.Inv.move {S:SM} (h:S.Inv) {ref:Nat} (hr:ref<S.cls.length) {l x:Int} {kept rest:List Nat} (hW:S.jm (idx l)=kept++ref :: rest) {c:Cl} (hl:c.lits=(S.cl ref).lits) (hc:c.ok)
  (hx:fC x=true) (hxl:x≠l) (hnew:∀ j,c.aj j↔(j≠idx l∧(S.cl ref).aj j)∨j=idx x) (hold:¬ (S.cl ref).aj (idx x)) :
  (((S.put ref c).watch x ref).setW (idx l) (kept++rest)).Inv:=by
 have hlen:c.lits.length=(S.cl ref).lits.length:=by rw[hl]
 have hil:idx l<S.aj.length:=SM.abS (ref:=ref) (by rw[hW];simp);have hne:idx x≠idx l:=fun e=>hxl (kQ e);have hb:=bD.1 hx;have hixb:=Gf hb.2.1 hb.2.2;have htop:mO (idx x)≤131074:=by unfold mO idx;split <;> split <;> omega
 have hg:∀ j,(((S.put ref c).watch x ref).setW (idx l) (kept++rest)).jm j=if j=idx l then kept++rest else if j=idx x then S.jm j++[ref] else S.jm j:=by
  intro j;rw[SM.JL,SM.jG,SM.sM]
  by_cases h1:j=idx l
  ·rw[if_pos h1,if_pos ⟨h1.symm,by show idx l<max S.aj.length _;omega⟩]
  ·rw[if_neg h1,if_neg (fun e=>h1 e.1.symm)];rfl
 have hnd:=h.nodup (idx l);rw[hW] at hnd
 have hnd':(kept++rest).Nodup∧ref∉kept++rest:=by
  have hp:(kept++ref :: rest).Perm (ref :: (kept++rest)):=List.perm_middle;have:=hp.nodup_iff.1 hnd;rw[List.nodup_cons] at this;exact⟨this.2,this.1⟩
 refine⟨h.most,?_,?_,?_,?_,?_⟩
 ·show (S.put ref c).words.length≤S.most;rw[S.BO c hlen];exact h.words
 ·intro i hi
  have hi':i<S.cls.length:=by
   have:i<(S.put ref c).cls.length:=hi
   rwa [S.Gj] at this
  show ((S.put ref c).cl i).ok;rw[S.Zh c hr i]
  split
  ·exact hc
  ·exact h.cl i hi'
 ·show (((S.put ref c).watch x ref).aj.set _ _).length≤_;rw[List.length_set,SM.jG];have:=h.KR;show max S.aj.length _≤_;omega
 ·intro j ref';rw[hg];have hcl:(((S.put ref c).watch x ref).setW (idx l) (kept++rest)).cl ref'=if ref'=ref then c else S.cl ref':=S.Zh c hr ref'
  have hlen':(((S.put ref c).watch x ref).setW (idx l) (kept++rest)).cls.length=S.cls.length:=S.Gj ref c;rw[hcl,hlen'];have old:=h.watch j ref'
  by_cases he:ref'=ref
  ·subst he;rw[if_pos rfl,hnew j]
   by_cases h1:j=idx l
   ·rw[if_pos h1]
    constructor
    ·intro hm;exact absurd hm hnd'.2
    ·rintro⟨_,⟨h2,_⟩ | h2⟩
     ·exact absurd h1 h2
     ·exact absurd (h2.symm.trans h1) hne
   ·rw[if_neg h1]
    by_cases h2:j=idx x
    ·rw[if_pos h2];simp[hr,h2]
    ·rw[if_neg h2,old]
     constructor
     ·rintro⟨a,b⟩;exact⟨a,.inl ⟨h1,b⟩⟩
     ·rintro⟨a,⟨_,b⟩ | b⟩
      ·exact⟨a,b⟩
      ·exact absurd b h2
  ·rw[if_neg he]
   by_cases h1:j=idx l
   ·rw[if_pos h1];subst h1;rw[hW] at old;rw[←old];simp[he]
   ·rw[if_neg h1]
    by_cases h2:j=idx x
    ·rw[if_pos h2,←old];simp[he]
    ·rw[if_neg h2,old]
 ·intro j;rw[hg]
  split
  ·exact hnd'.1
  ·split
   ·rename_i h2;rw[List.nodup_append];refine⟨h.nodup j,by simp,?_⟩;intro a ha b hb' e;rw[List.mem_singleton.1 hb'] at e;subst e;rw[h2] at ha;exact hold ((h.watch _ _).1 ha).2
   ·exact h.nodup j
structure Looks (S:SM) (ref:Nat) (l:Int):Prop where
 isRef:ref<S.cls.length
 two:2≤(S.cl ref).lits.length
 ok:(S.cl ref).ok
 mine:if NA S ref l then gi (S.cl ref).lits (S.cl ref).p=l else gi (S.cl ref).lits (S.cl ref).q=l
theorem SM.Inv.looks {S:SM} (h:S.Inv) {ref:Nat} {l:Int} (hm:ref∈S.jm (idx l)):Looks S ref l:=by
 obtain⟨h1,h2,h3⟩:=(h.watch _ _).1 hm;refine⟨h1,h2,h.cl ref h1,?_⟩;unfold NA
 by_cases he:gi (S.cl ref).lits (S.cl ref).p=l
 ·rw[if_pos (by simpa using he)];exact he
 ·rw[if_neg (by simpa using he)];rcases h3 with h3 | h3
  ·exact absurd (kQ h3) he
  ·exact kQ h3
theorem TT {R:RM} {lits:List Int} {q i:Nat} (h:fits R lits q i=true):i≠q∧0≤R.is (gi lits i):=by
 unfold fits at h;simpa using h
theorem Le {R:RM} {lits:List Int} {q i:Nat} (h:Ap R lits q=some i):i<lits.length∧fits R lits q i=true:=by
 unfold Ap at h;have h1:=List.mem_of_find?_eq_some h;have h2:=List.find?_some h;exact⟨by simpa using h1,h2⟩
theorem Aq {R:RM} {lits:List Int} {q:Nat} (h:Ap R lits q=none):∀ i,i<lits.length→fits R lits q i=false:=by
 unfold Ap at h;rw[List.find?_eq_none] at h;intro i hi;have:=h i (by simpa using hi);simpa using this
inductive Found (S:SM) (R:RM) (ref:Nat) (l:Int) (kept rest:List Nat):Look→Prop
 | sat (h:0<R.is (gi (S.cl ref).lits (jl S ref l))):Found S R ref l kept rest ⟨false,false,S,R⟩
 | moved (i:Nat) (hi:i<(S.cl ref).lits.length) (hf:fits R (S.cl ref).lits (jl S ref l) i=true) (h:¬ 0<R.is (gi (S.cl ref).lits (jl S ref l))) :
   Found S R ref l kept rest ⟨true,false,(uX S ref l i).watch (gi (S.cl ref).lits i) ref,R⟩
 | bad (hn:∀ i,i<(S.cl ref).lits.length→fits R (S.cl ref).lits (jl S ref l) i=false) (h:R.is (gi (S.cl ref).lits (jl S ref l))<0):Found S R ref l kept rest ⟨false,true,S,R⟩
 | unit (hn:∀ i,i<(S.cl ref).lits.length→fits R (S.cl ref).lits (jl S ref l) i=false) (h:R.is (gi (S.cl ref).lits (jl S ref l))=0) :
   Found S R ref l kept rest ⟨false,false,S,R.set (gi (S.cl ref).lits (jl S ref l))⟩
theorem NC (S:SM) (R:RM) (ref:Nat) (l:Int) (kept rest:List Nat):Found S R ref l kept rest (TS S R ref l):=by
 unfold TS;simp only
 split
 ·exact .sat ‹_›
 ·split
  ·rename_i i hi;have:=Le hi;exact .moved i this.1 this.2 ‹_›
  ·rename_i hn
   split
   ·exact .bad (Aq hn) ‹_›
   ·exact .unit (Aq hn) (by omega)
theorem SM.Inv.look {S:SM} {R:RM} (h:S.Inv) {ref:Nat} {l:Int} {kept rest:List Nat} (hW:S.jm (idx l)=kept++ref :: rest) (hl:R.is l<0) {i:Nat} (hi:i<(S.cl ref).lits.length) (hf:fits R (S.cl ref).lits (jl S ref l) i=true) :
  (((uX S ref l i).watch (gi (S.cl ref).lits i) ref).setW (idx l) (kept++rest)).Inv:=by
 have hk:=h.looks (ref:=ref) (l:=l) (by rw[hW];simp);obtain⟨hiq,hi0⟩:=TT hf;have hx:fC (gi (S.cl ref).lits i)=true:=hk.ok.lits _ (nZ hi);have hxl:gi (S.cl ref).lits i≠l:=fun e=>by rw[e] at hi0;omega
 have hp:=hk.ok.p hk.two;have hq:=hk.ok.q hk.two;have hpq:=hk.ok.pq hk.two;have wN:=hk.mine;unfold jl at hiq;unfold uX
 cases hm:NA S ref l
 ·rw[hm] at hiq wN;simp only[Bool.false_eq_true,if_false] at hiq wN ⊢;have aeY:i≠(S.cl ref).q:=fun e=>hxl (by rw[e];exact wN);refine SM.Inv.move h hk.isRef hW (c:=(S.cl ref).aeW i) rfl ⟨hk.ok.lits,hk.ok.nodup,hk.ok.apart,hk.ok.p,fun _=>hi,fun _=>fun e=>hiq e.symm⟩ hx hxl ?_ ?_
  ·intro j;unfold Cl.aj Cl.aeW;simp only
   constructor
   ·rintro⟨a,b | b⟩
    ·refine .inl ⟨fun e=>?_,a,.inl b⟩;rw[e] at b;have:=kQ b;rw[←wN] at this;exact hpq (yO hk.ok.nodup hp hq this)
    ·exact .inr b.symm
   ·rintro (⟨a,b,c | c⟩ | a)
    ·exact⟨b,.inl c⟩
    ·rw[wN] at c;exact absurd c.symm a
    ·exact⟨hk.two,.inr a.symm⟩
  ·rintro⟨_,b | b⟩
   ·exact hiq (yO hk.ok.nodup hp hi (kQ b)).symm
   ·exact aeY (yO hk.ok.nodup hq hi (kQ b)).symm
 ·rw[hm] at hiq wN;simp only[if_true] at hiq wN ⊢;have aeY:i≠(S.cl ref).p:=fun e=>hxl (by rw[e];exact wN);refine SM.Inv.move h hk.isRef hW (c:=(S.cl ref).aeV i) rfl ⟨hk.ok.lits,hk.ok.nodup,hk.ok.apart,fun _=>hi,hk.ok.q,fun _=>hiq⟩ hx hxl ?_ ?_
  ·intro j;unfold Cl.aj Cl.aeV;simp only
   constructor
   ·rintro⟨a,b | b⟩
    ·exact .inr b.symm
    ·refine .inl ⟨fun e=>?_,a,.inr b⟩;rw[e] at b;have:=kQ b;rw[←wN] at this;exact hpq (yO hk.ok.nodup hq hp this).symm
   ·rintro (⟨a,b,c | c⟩ | a)
    ·rw[wN] at c;exact absurd c.symm a
    ·exact⟨b,.inr c⟩
    ·exact⟨hk.two,.inl a.symm⟩
  ·rintro⟨_,b | b⟩
   ·exact aeY (yO hk.ok.nodup hp hi (kQ b)).symm
   ·exact hiq (yO hk.ok.nodup hq hi (kQ b)).symm
theorem SM.Vy (S:SM) {i:Nat} (h:i<S.aj.length):S.setW i (S.jm i)=S:=by
 unfold SM.setW SM.jm;simp[h]
theorem SM.Vz {S:SM} {i:Nat} {v:List Nat} (h:i<S.aj.length) (e:S.jm i=v):S.setW i v=S:=by rw[←e];exact S.Vy h
structure Lf (l:Int) (S:SM) (R:RM) (kept rest:List Nat):Prop where
 Zk:S.Inv
 Zl:R.Inv
 neg:R.is l<0
 lit:fC l=true
 w:S.jm (idx l)=kept++rest
 lt:idx l<S.aj.length
 next:R.next<R.out.length
def Ar (l:Int) (S:SM) (R:RM) (kept:List Nat) (ref:Nat) (rest:List Nat):List Nat×SM×RM :=
 let k:=TS S R ref l
 let kept':=if k.moved then kept else kept++[ref]
 (kept',k.S.setW (idx l) (kept'++rest),k.R)
theorem Lf.step {l:Int} {S:SM} {R:RM} {kept rest:List Nat} {ref:Nat} (h:Lf l S R kept (ref :: rest)) :
  Lf l (Ar l S R kept ref rest).2.1 (Ar l S R kept ref rest).2.2 (Ar l S R kept ref rest).1 rest:=by
 have hk:=h.Zk.looks (ref:=ref) (l:=l) (by rw[h.w];simp);have hlt:=h.lt;unfold Ar;obtain⟨k,hkk⟩:∃ k,TS S R ref l=k:=⟨_,rfl⟩;have hf:=NC S R ref l kept rest;rw[hkk] at hf ⊢;have hsame:S.setW (idx l) (kept++[ref]++rest)=S:=SM.Vz hlt (by rw[h.w];simp)
 have hq:jl S ref l<(S.cl ref).lits.length:=by
  unfold jl
  split
  ·exact hk.ok.q hk.two
  ·exact hk.ok.p hk.two
 cases hf with
 | sat h1 =>
  simp only[Bool.false_eq_true,if_false];rw[hsame];exact⟨h.Zk,h.Zl,h.neg,h.lit,by rw[h.w];simp,hlt,h.next⟩
 | moved i hi hfi h1 =>
  simp only[if_true];have hinv:=h.Zk.look (kept:=kept) (rest:=rest) h.w h.neg hi hfi;have h2:=TT hfi;have hne:idx (gi (S.cl ref).lits i)≠idx l:=fun e=>by have:=kQ e;rw[this] at h2;have:=h.neg;omega
  have hlen:idx l<((uX S ref l i).watch (gi (S.cl ref).lits i) ref).aj.length:=by
   rw[SM.jG];have:(uX S ref l i).aj=S.aj:=by unfold uX;split <;> rfl
   rw[this];omega
  refine⟨hinv,h.Zl,h.neg,h.lit,?_,?_,h.next⟩
  ·rw[SM.JL,if_pos ⟨rfl,hlen⟩]
  ·show idx l<(((uX S ref l i).watch (gi (S.cl ref).lits i) ref).aj.set _ _).length;rw[List.length_set];exact hlen
 | bad hn h1 =>
  simp only[Bool.false_eq_true,if_false];rw[hsame];exact⟨h.Zk,h.Zl,h.neg,h.lit,by rw[h.w];simp,hlt,h.next⟩
 | unit hn h1 =>
  simp only[Bool.false_eq_true,if_false];rw[hsame];have hx:fC (gi (S.cl ref).lits (jl S ref l))=true:=hk.ok.lits _ (nZ hq);refine⟨h.Zk,h.Zl.set hx h1,?_,h.lit,by rw[h.w];simp,hlt,by have:=h.next;simp[RM.set];omega⟩;rw[RM.Zj h.Zl.ok hx l h.lit];have hneg:=h.neg
  split
  ·rename_i e;rw[←e] at h1;omega
  ·split
   ·omega
   ·exact hneg
theorem RM.Inv.step {R:RM} (h:R.Inv) (hn:R.next<R.out.length):R.step.Inv:=⟨⟨h.ok.len,h.ok.val,h.ok.out⟩,h.lits,h.pos,hn,h.nodup⟩
open Go.Proofs.aC
def SM.Rz (S:SM):List Nat:=(List.range S.cls.length).filter S.K9
theorem SM.Gl (S:SM):S.short=S.Rz.map fun (i:Nat)=>(i:Int):=rfl
def aik:Nat:=65537
def RM.start:RM:=⟨[],zeros aik,0⟩
end Go.Proofs.au

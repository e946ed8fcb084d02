/-
  Parts of the proof, joined by program: ajW, amh, ajX, ami.
-/
import Derived.Test.YthbbmdnfkkffjaaGreatY33
import Derived.Test.YthbbmdnfkkffjaaGreatY20
import Derived.Test.YthbbmdnfkkffjaaGreatY16
import Derived.Test.YthbbmdnfkkffjaaGreatY01
import Derived.Lib.Hide
set_option maxHeartbeats 8000000
set_option maxRecDepth 100000
namespace Go.Proofs.au
open Go.Proofs.aC (upd)
def dR (out:List Int):List Int→List Int
 | []=>out
 | x :: r=>dR (if x∈out then out else out++[x]) r
def bQ (xs:List Int):List Int:=dR [] xs
def Au (xs:List Int):Bool:=xs.any fun x=>decide (-x∈xs)
def dx (xs:List Int):Int:=if xs.all fC then if Au xs then 112 else 0 else 110
theorem sN (x:Int):∀ (xs out:List Int),dR out (xs++[x])=if x∈dR out xs then dR out xs else dR out xs++[x]
 | [],_=>rfl
 | _ :: r,_=>sN x r _
theorem uZ (u:Int):∀ (xs out:List Int),u∈dR out xs↔u∈out∨u∈xs
 | [],out=>by simp[dR]
 | y :: r,out=>by
  rw[dR,uZ u r]
  split <;> simp
  ·rename_i h
   constructor
   ·rintro (h1 | h1) <;> simp[h1]
   ·rintro (h1 | rfl | h1) <;> simp[*]
  ·constructor
   ·rintro ((h1 | h1) | h1) <;> simp[h1]
   ·rintro (h1 | h1 | h1) <;> simp[h1]
theorem qD:∀ (xs out:List Int),out.Nodup→(dR out xs).Nodup
 | [],out,h=>h
 | y :: r,out,h=>by
  rw[dR];refine qD r _ ?_
  split
  ·exact h
  ·rename_i hn;rw[List.nodup_append];refine⟨h,by simp,?_⟩;intro a ha b hb e;simp only[List.mem_singleton] at hb;subst hb e;exact hn ha
theorem dA {u:Int} {xs:List Int}:u∈bQ xs↔u∈xs:=by
 unfold bQ;rw[uZ];simp
theorem CJ (xs:List Int):(bQ xs).Nodup:=qD xs [] List.nodup_nil
theorem u7:∀ (xs out:List Int),(dR out xs).length≤out.length+xs.length
 | [],out=>Nat.le_refl _
 | y :: r,out=>by
  rw[dR];have:=u7 r (if y∈out then out else out++[y])
  refine Nat.le_trans this ?_
  split <;> simp <;> omega
structure mH (xs:List Int) (j:Nat) (out:List Int) (f:Int→Int) (both:Bool):Prop where
 out:dR [] (xs.take j)=out
 f:∀ u,f u=if u∈xs.take j then 1 else 0
 both:both=Au (xs.take j)
 lits:∀ x∈xs.take j,fC x=true
theorem mH.start (xs:List Int):mH xs 0 [] (fun _=>0) false:=⟨rfl,fun u=>by simp,rfl,by simp⟩
theorem ND {xs:List Int} {j:Nat} (h:j<xs.length):xs.take (j+1)=xs.take j++[gi xs j]:=by
 rw[List.take_add_one];simp[gi,List.getD_eq_getElem?_getD,h]
theorem RB (xs:List Int) (x:Int):Au (xs++[x])=(Au xs||decide (-x∈xs++[x])):=by
 rw[Bool.eq_iff_iff];unfold Au;simp only[List.any_eq_true,decide_eq_true_eq,Bool.or_eq_true,List.mem_append,List.mem_singleton]
 constructor
 ·rintro⟨y,hy | rfl,hn | hn⟩
  ·exact .inl ⟨y,hy,hn⟩
  ·right;left;rw[←hn,Int.neg_neg];exact hy
  ·exact .inr (.inl hn)
  ·exact .inr (.inr hn)
 ·rintro (⟨y,hy,hn⟩ | hn | hn)
  ·exact⟨y,.inl hy,.inl hn⟩
  ·exact⟨x,.inr rfl,.inl hn⟩
  ·exact⟨x,.inr rfl,.inr hn⟩
theorem mH.step {xs:List Int} {j:Nat} {out:List Int} {f:Int→Int} {both:Bool} (h:mH xs j out f both) {x:Int} (hj:j<xs.length) (hx:gi xs j=x) (hl:fC x=true) :
  mH xs (j+1) (if f x=0 then out++[x] else out) (upd f x 1) (both||decide (0<upd f x 1 (-x))):=by
 have ht:=ND hj;rw[hx] at ht
 have hf:∀ u,upd f x 1 u=if u∈xs.take (j+1) then 1 else 0:=by
  intro u;unfold upd;rw[ht,h.f u]
  by_cases hu:u=x
  ·subst hu;simp
  ·simp[hu]
 refine⟨?_,hf,?_,?_⟩
 ·rw[ht,sN,h.out];have hm:x∈out↔x∈xs.take j:=by rw[←h.out,uZ];simp
  rw[h.f x]
  by_cases BG:x∈xs.take j
  ·rw[if_pos BG,if_pos (hm.2 BG),if_neg (by omega)]
  ·rw[if_neg BG,if_neg (fun e=>BG (hm.1 e)),if_pos rfl]
 ·rw[ht,RB,h.both,hf,ht]
  congr 1
  split <;> simp[*]
 ·intro y hy;rw[ht] at hy;rcases List.mem_append.1 hy with h1 | h1
  ·exact h.lits y h1
  ·simp only[List.mem_singleton] at h1;subst h1;exact hl
theorem mH.bad {xs:List Int} {j:Nat} {x:Int} (hj:j<xs.length) (hx:gi xs j=x) (hl:fC x=false):dx xs=110:=by
 unfold dx;rw[if_neg];intro ha;rw[List.all_eq_true] at ha;have:=ha x (by rw[←hx];unfold gi;rw[List.getD_eq_getElem?_getD];simp[hj]);rw[hl] at this
 cases this
theorem mH.done {xs:List Int} {j:Nat} {out:List Int} {f:Int→Int} {both:Bool} (h:mH xs j out f both) (hj:j=xs.length):out=bQ xs∧dx xs=if both then 112 else 0:=by
 subst hj;have e:=List.take_length (l:=xs);refine⟨by rw[←h.out,e];rfl,?_⟩;unfold dx;rw[if_pos,h.both,e];rw[List.all_eq_true];intro x hx;exact h.lits x (by rw[e];exact hx)
end Go.Proofs.au
namespace Go.Proofs.YthbbmdnfkkffjaaGreat
open Go.RowKit Go.Maps Go.Proofs.aC Go.Proofs.au
theorem Tryz.sO:Keyed Tryz.prog 3:=int_keyed Tryz.underlying3
theorem Tryz.vZ (w:World):(zeroValue 3).run Tryz.prog w=.ok (.int .i64 0) w:=by kernel_rfl
theorem sP {x:Int} (h:fC x=true):(Lit.int .i64 x).wf=true:=by
 rw[bD] at h;have e1:IntKind.i64.min=-9223372036854775808:=by decide
 have e2:IntKind.i64.max=9223372036854775807:=by decide
 simp only[Lit.wf,e1,e2,Bool.and_eq_true,decide_eq_true_eq];omega
def vg (w:World) (xs:List Int) (e:Ending) (w':World):Prop :=
 (dx xs=0→∃ oa oc,e=.returned (.tuple #[iB oa (bQ xs).length oc,.int .i64 0])∧St w.heap.size w w' (bO 3 oa oc (bQ xs))) ∧
 (dx xs≠0→e=.returned (.tuple #[.slice none 0 0,.int .i64 (dx xs)])∧St w.heap.size w w' emp)
theorem Zm (A:Option Addr) (n c:Nat) (xs:List Int) (w:World) (hr:Rd w A n xs) (hn:n≤1000000) :
  Calls Tryz.prog 82 #[.slice A n c] w (vg w xs):=by
 have hmm:=@run_makeMap Tryz.prog;have HR:=zH hr;have HN:=zH hn;clear hr
 go_enter Tryz.func82,Tryz.ntmps82
 go_wp2
 go_loopw [5,6,12] (fun v5 v6 v12 wr=>∃ (j:Nat) (out:List Int) (f:Int→Int) (both:Bool) (oa:Option Nat) (oc:Nat),j≤n∧v12=.int .i64 j∧v5=iB oa out.length oc∧v6=.bool both∧out.length≤j∧Hid (mH xs j out f both) ∧
   Hid (St w.heap.size w wr (star (mp Tryz.prog 3 3 w.heap.size j f) (bO 3 oa oc out)))) (fun _ _ v12 _=>n-(intOf v12).toNat)
 case atStart =>
  refine⟨0,[],fun _=>0,false,none,0,Nat.zero_le _,rfl,rfl,rfl,Nat.le_refl _,mH.start xs,?_⟩;rw[Lb];exact St.YB (St.start w)
 case round =>
  obtain⟨j,out,f,both,oa,oc,hj,rfl,rfl,rfl,hol,HO,HST⟩:=hrel
  by_cases hjn:j<n
  ·obtain⟨ab,ao,rfl,hc⟩:=(HR.out.grow HST.out.below).cells (by omega);have d1:=hc j hjn;clear hc;obtain⟨x,hx⟩:∃ x,gi xs j=x:=⟨_,rfl⟩;rw[hx] at d1;have hjx:j<xs.length:=by have:=HR.out.len;omega
   have hlt:=abR x wr;obtain⟨lb,hlb⟩:∃ lb,fC x=lb:=⟨_,rfl⟩;rw[hlb] at hlt;have VA:=zH hlt;have Qb:=zH hlb;have HX:=zH hx;have HJX:=zH hjx;clear hx hlt hlb hjx
   cases lb with
   | false =>
    go_wp2_with (go_at_call 100;refine (VA.out).mono ?_;rintro e w2 ⟨rfl,rfl⟩)
    go_ret2
    have he:=mH.bad HJX.out HX.out Qb.out;refine⟨fun h=>absurd (he.symm.trans h) (by decide),fun _=>⟨by rw[he];rfl,?_⟩⟩;exact⟨HST.out.below,HST.out.base,Sat.emp _ _⟩
   | true =>
    obtain⟨hx1,hx2,hx3⟩:=bD.1 Qb.out;have hstep:=HO.out.step HJX.out HX.out Qb.out;have hl1:=St.vV HST.out Tryz.sO Tryz.underlying102 Tryz.underlying3 Tryz.underlying3 Tryz.vZ x (sP Qb.out);obtain⟨fx,hfx⟩:∃ fx,f x=fx:=⟨_,rfl⟩;rw[hfx] at hl1 hstep;have CK:=zH hstep;have hst:=HST.out;have Ir:St w.heap.size w wr (star (bO 3 oa oc out) (mp Tryz.prog 3 3 w.heap.size j f)):=hst.aB (j5 _ _);have lU:=zH Ir;have HFX:=zH hfx;clear hx1 hstep hfx hst Ir;obtain⟨ol,RD⟩:∃ ol,out.length=ol:=⟨_,rfl⟩;rw[RD] at hol ⊢;have HOL:=zH RD;clear RD;unfold iB
    by_cases h0:fx=0
    ·subst h0;have yP:=CK.out;rw[if_pos rfl] at yP;have Gm:=zH yP;clear yP CK
     cases both
     ·go_wp2_with (first | (go_at_call 100;refine (VA.out).mono ?_;rintro e w2 ⟨rfl,rfl⟩) | (at_builtin;refine cO rfl _ _ 27 3 rfl Tryz.underlying27 Tryz.gQ lU.out ol HOL.out rfl x rfl (by omega) ?_;intro b' c' w1 h4;have h5:=h4.aB (j5 _ _);clear h4) | (at_mapUpdate;refine iG rfl _ _ _ rfl h5 Tryz.sO Tryz.underlying102 Tryz.underlying3 Tryz.underlying3 (by simp only[maxLen];omega) x 1 rfl rfl rfl (sP Qb.out) (by decide) ?_;intro w3 h3;have hl2:=St.vV h3 Tryz.sO Tryz.underlying102 Tryz.underlying3 Tryz.underlying3 Tryz.vZ (-x) (sP (uY Qb.out));have H3:=zH h3;clear h3))
      go_roundw
      case rel =>
       have hs:=Gm.out;rw[Bool.false_or] at hs;refine⟨j+1,out++[x],upd f x 1,_,some b',c',by omega,by go_num,?_,rfl,by rw[List.length_append,HOL.out];simp;omega,hs,H3.out⟩;rw[List.length_append,HOL.out];rfl
      case measure=>simp[intOf];omega
     ·go_wp2_with (first | (go_at_call 100;refine (VA.out).mono ?_;rintro e w2 ⟨rfl,rfl⟩) | (at_builtin;refine cO rfl _ _ 27 3 rfl Tryz.underlying27 Tryz.gQ lU.out ol HOL.out rfl x rfl (by omega) ?_;intro b' c' w1 h4;have h5:=h4.aB (j5 _ _);clear h4) | (at_mapUpdate;refine iG rfl _ _ _ rfl h5 Tryz.sO Tryz.underlying102 Tryz.underlying3 Tryz.underlying3 (by simp only[maxLen];omega) x 1 rfl rfl rfl (sP Qb.out) (by decide) ?_;intro w3 h3;have hl2:=St.vV h3 Tryz.sO Tryz.underlying102 Tryz.underlying3 Tryz.underlying3 Tryz.vZ (-x) (sP (uY Qb.out));have H3:=zH h3;clear h3))
      go_roundw
      case rel =>
       have hs:=Gm.out;rw[Bool.true_or] at hs;refine⟨j+1,out++[x],upd f x 1,_,some b',c',by omega,by go_num,?_,rfl,by rw[List.length_append,HOL.out];simp;omega,hs,H3.out⟩;rw[List.length_append,HOL.out];rfl
      case measure=>simp[intOf];omega
    ·have h0':(fx==0)=false:=by simpa using h0
     have yP:=CK.out;rw[if_neg h0] at yP;have Gm:=zH yP;clear yP CK
     cases both
     ·go_wp2_with (first | (go_at_call 100;refine (VA.out).mono ?_;rintro e w2 ⟨rfl,rfl⟩) | (at_mapUpdate;refine iG rfl _ _ _ rfl HST.out Tryz.sO Tryz.underlying102 Tryz.underlying3 Tryz.underlying3 (by simp only[maxLen];omega) x 1 rfl rfl rfl (sP Qb.out) (by decide) ?_;intro w3 h3;have hl2:=St.vV h3 Tryz.sO Tryz.underlying102 Tryz.underlying3 Tryz.underlying3 Tryz.vZ (-x) (sP (uY Qb.out));have H3:=zH h3;clear h3))
      go_roundw
      case rel =>
       have hs:=Gm.out;rw[Bool.false_or] at hs;refine⟨j+1,out,upd f x 1,_,oa,oc,by omega,by go_num,?_,rfl,by rw[HOL.out];omega,hs,H3.out⟩;rw[HOL.out]
      case measure=>simp[intOf];omega
     ·go_wp2_with (first | (go_at_call 100;refine (VA.out).mono ?_;rintro e w2 ⟨rfl,rfl⟩) | (at_mapUpdate;refine iG rfl _ _ _ rfl HST.out Tryz.sO Tryz.underlying102 Tryz.underlying3 Tryz.underlying3 (by simp only[maxLen];omega) x 1 rfl rfl rfl (sP Qb.out) (by decide) ?_;intro w3 h3;have hl2:=St.vV h3 Tryz.sO Tryz.underlying102 Tryz.underlying3 Tryz.underlying3 Tryz.vZ (-x) (sP (uY Qb.out));have H3:=zH h3;clear h3))
      go_roundw
      case rel =>
       have hs:=Gm.out;rw[Bool.true_or] at hs;refine⟨j+1,out,upd f x 1,_,oa,oc,by omega,by go_num,?_,rfl,by rw[HOL.out];omega,hs,H3.out⟩;rw[HOL.out]
      case measure=>simp[intOf];omega
  ·obtain rfl:j=n:=by omega
   have hd:=HO.out.done (by have:=HR.out.len;omega);have HD:=zH hd;clear hd;have hs:St w.heap.size w wr (bO 3 oa oc out):=HST.out.wH;have HS:=zH hs;clear hs
   cases both
   ·go_wp2
    go_ret2
    obtain⟨rfl,he⟩:=HD.out;rw[if_neg (by decide)] at he;exact⟨fun _=>⟨oa,oc,rfl,HS.out⟩,fun h=>absurd he h⟩
   ·go_wp2
    go_ret2
    obtain⟨rfl,he⟩:=HD.out;rw[if_pos trivial] at he;exact⟨fun h=>absurd (he.symm.trans h) (by decide),fun _=>⟨by rw[he];rfl,⟨HS.out.below,HS.out.base,Sat.emp _ _⟩⟩⟩
end Go.Proofs.YthbbmdnfkkffjaaGreat
namespace Go.Proofs.au
def SM.kR (S:SM) (l:List Int):SM:={ S with cls:=S.cls++[⟨0,1,l⟩] }
def SM.yQ (S:SM) (l:List Int):SM:=if l.length<2 then S.kR l else ((S.kR l).watch (gi l 0) S.cls.length).watch (gi l 1) S.cls.length
def Dh (S:SM) (xs:List Int):SM×Nat×Int :=
 if dx xs≠0 then (S,0,dx xs) else if S.most<S.words.length+2+(bQ xs).length then (S,0,111) else (S.yQ (bQ xs),S.cls.length,0)
theorem SM.lu (S:SM) (l:List Int):(S.kR l).words=S.words++0 :: 1 :: l:=by
 unfold SM.kR SM.words;simp[Cl.words]
theorem SM.iP (S:SM) (l:List Int):(S.kR l).cls.length=S.cls.length+1:=by simp[SM.kR]
theorem SM.wh (S:SM) (l:List Int) (i:Nat):(S.kR l).cl i=if i=S.cls.length then ⟨0,1,l⟩ else S.cl i:=by
 unfold SM.cl SM.kR;simp only[List.getD_eq_getElem?_getD,List.getElem?_append]
 split
 ·rename_i h;rw[if_neg (by omega)]
 ·rename_i h
  split
  ·rename_i e;subst e;simp
  ·rename_i e;rw[List.getElem?_eq_none (l:=[(⟨0,1,l⟩:Cl)]) (by simp;omega),List.getElem?_eq_none (l:=S.cls) (by omega)]
theorem SM.CO (S:SM) (l:List Int):(S.kR l).begins=S.begins++[(S.words.length:Int)]:=by
 unfold SM.begins;rw[S.iP,List.range_succ,List.map_append]
 congr 1
 ·refine List.map_congr_left fun i hi=>?_;rw[List.mem_range] at hi;unfold SM.begin SM.kR;rw[List.take_append_of_le_length (by omega)]
 ·unfold SM.begin SM.kR SM.words;simp
theorem SM.sQ (S:SM) (l:List Int):(S.kR l).short=S.short++if l.length<2 then [(S.cls.length:Int)] else []:=by
 rw[SM.Gl,SM.Gl];unfold SM.Rz;rw[S.iP,List.range_succ,List.filter_append,List.map_append];have e:∀ i,(S.kR l).K9 i=decide (((S.kR l).cl i).lits.length<2):=fun _=>rfl
 congr 1
 ·congr 1
  refine List.filter_congr fun i hi=>?_;rw[List.mem_range] at hi;rw[e,S.wh,if_neg (by omega)];rfl
 ·simp only[List.filter_cons,List.filter_nil,e,S.wh,if_true]
  split
  ·rename_i h;rw[if_pos (by simpa using h)];rfl
  ·rename_i h;rw[if_neg (by simpa using h)];rfl
theorem SM.CP (S:SM) (x:Int) (r:Nat):(S.watch x r).words=S.words:=rfl
theorem RG {xs:List Int} (h:dx xs=0):(∀ x∈xs,fC x=true)∧∀ x∈xs,-x∉xs:=by
 unfold dx at h
 split at h
 ·rename_i ha
  split at h
  ·cases h
  ·rename_i hb;rw[List.all_eq_true] at ha;refine⟨ha,fun x hx hn=>hb ?_⟩;unfold Au;rw[List.any_eq_true];exact⟨x,hx,by simpa using hn⟩
 ·cases h
theorem Gn {xs:List Int} (h:dx xs=0):(⟨0,1,bQ xs⟩:Cl).ok:=by
 obtain⟨h1,h2⟩:=RG h;refine⟨fun x hx=>h1 x (dA.1 hx),CJ xs,fun x hx hn=>h2 x (dA.1 hx) (dA.1 hn),fun h=>?_,fun h=>?_,fun h=>by simp⟩
 ·simp only at h ⊢;omega
 ·simp only at h ⊢;omega
theorem BP (S:SM) (l:List Int) (i:Nat):(S.kR l).jm i=S.jm i:=rfl
theorem Av (S:SM) (x:Int) (r i:Nat):(S.watch x r).cl i=S.cl i:=rfl
theorem Gp {i:Nat} (h:i≤131073):mO i≤131074:=by unfold mO;split <;> omega
theorem SM.Inv.yQ {S:SM} (h:S.Inv) {xs:List Int} (hx:dx xs=0) (hr:S.words.length+2+(bQ xs).length≤S.most):(S.yQ (bQ xs)).Inv:=by
 have hok:=Gn hx;obtain⟨l,hl⟩:∃ l,bQ xs=l:=⟨_,rfl⟩;rw[hl] at hok hr ⊢;have hnew:∀ i,S.cls.length∉S.jm i:=fun i hm=>by have:=((h.watch i _).1 hm).1;omega
 unfold SM.yQ
 split
 ·rename_i hs;refine⟨h.most,?_,?_,h.KR,?_,h.nodup⟩
  ·rw[S.lu];simp only[List.length_append,List.length_cons];show _≤S.most;omega
  ·intro i hi;rw[S.wh]
   split
   ·exact hok
   ·rw[S.iP] at hi;exact h.cl i (by omega)
  ·intro i r;rw[BP,h.watch i r,S.iP,S.wh]
   constructor
   ·rintro⟨h1,h2⟩
    exact⟨by omega,by rw[if_neg (by omega)];exact h2⟩
   ·rintro⟨h1,h2⟩
    split at h2
    ·have:=h2.1;simp only at this;omega
    ·exact⟨by omega,h2⟩
 ·rename_i hs;have hl0:fC (gi l 0)=true:=hok.lits _ (nZ (l:=l) (i:=0) (by omega));have hl1:fC (gi l 1)=true:=hok.lits _ (nZ (by simp only;omega));have hi0:=bD.1 hl0;have hi1:=bD.1 hl1
  have hne:idx (gi l 0)≠idx (gi l 1):=fun e=>by
   have:=yO hok.nodup (i:=0) (j:=1) (by simp only;omega) (by simp only;omega) (kQ e);omega
  have hget:∀ i,(((S.kR l).watch (gi l 0) S.cls.length).watch (gi l 1) S.cls.length).jm i=(S.jm i++if i=idx (gi l 0)∨i=idx (gi l 1) then [S.cls.length] else []):=by
   intro i;rw[SM.sM,SM.sM,BP]
   by_cases e1:i=idx (gi l 1)
   ·rw[if_pos e1,if_neg (by rw[e1];exact fun e=>hne e.symm),if_pos (.inr e1)]
   ·rw[if_neg e1]
    by_cases e0:i=idx (gi l 0)
    ·rw[if_pos e0,if_pos (.inl e0)]
    ·rw[if_neg e0,if_neg (by simp[e0,e1])];simp
  refine⟨h.most,?_,?_,?_,?_,?_⟩
  ·rw[SM.CP,SM.CP,S.lu];simp only[List.length_append,List.length_cons];show _≤S.most;omega
  ·intro i hi;rw[Av,Av,S.wh]
   split
   ·exact hok
   ·have:i<(S.kR l).cls.length:=hi;rw[S.iP] at this;exact h.cl i (by omega)
  ·rw[SM.jG,SM.jG];have:=Gp (Gf hi0.2.1 hi0.2.2);have:=Gp (Gf hi1.2.1 hi1.2.2);have:(S.kR l).aj.length≤131074:=h.KR;omega
  ·intro i r;rw[hget,Av,Av,S.wh];show _↔r<(S.kR l).cls.length∧_;rw[S.iP,List.mem_append,h.watch i r]
   by_cases hrr:r=S.cls.length
   ·subst hrr;rw[if_pos rfl];unfold Cl.aj;simp only
    constructor
    ·rintro (h1 | h1)
     ·omega
     ·split at h1
      ·rename_i hh;refine⟨by omega,by omega,?_⟩;rcases hh with rfl | rfl <;> simp
      ·cases h1
    ·rintro⟨_,_,h2⟩
     right;rw[if_pos (by rcases h2 with h2 | h2 <;> simp[h2])]
     simp
   ·rw[if_neg hrr]
    constructor
    ·rintro (h1 | h1)
     ·exact⟨by omega,h1.2⟩
     ·split at h1
      ·simp only[List.mem_singleton] at h1;omega
      ·cases h1
    ·rintro⟨h1,h2⟩
     exact .inl ⟨by omega,h2⟩
  ·intro i;rw[hget]
   split
   ·rw[List.nodup_append];refine⟨h.nodup i,by simp,?_⟩;intro a ha b hb e;simp only[List.mem_singleton] at hb;subst hb e;exact hnew i ha
   ·simpa using h.nodup i
theorem SM.Inv.add {S:SM} (h:S.Inv) (xs:List Int):(Dh S xs).1.Inv:=by
 unfold Dh
 split
 ·exact h
 ·rename_i h1
  split
  ·exact h
  ·rename_i h2;exact h.yQ (by simpa using h1) (by omega)
end Go.Proofs.au
namespace Go.Proofs.YthbbmdnfkkffjaaGreat
open Go.RowKit Go.Proofs.aC Go.Proofs.au
theorem Tryz.Gq:(Tryz.prog.info? 27).map (·.size)=some 1:=by kernel_rfl
def abV (B:Nat) (w0:World) (p:Nat) (F:HP) (res:SM×Nat×Int) (e:Ending) (w':World):Prop :=
 e=.returned (.tuple #[.int .i64 res.2.1,.int .i64 res.2.2])∧∃ L',bC B w0 w' p L' res.1 F
section
variable {B:Nat} {w0 w:World} {p:Nat} {L:sK} {S:SM} {F:HP}
theorem Rd.Zn (w:World) (x y:Int) (e:TypeId):Rd (w.alloc (.cells #[.int .i64 x,.int .i64 y] e)) (some ⟨w.heap.size,0,none⟩) 2 [x,y] :=
 ⟨rfl,by omega,fun _=>⟨w.heap.size,0,rfl,fun j hj=>by
  rw[cell_of_row _ _ _ _ _ _ (heap_alloc_new w _)]
  match j,hj with
  | 0,_=>rfl
  | 1,_=>rfl⟩⟩
def qE (p:Nat) (L:sK) (S:SM) (cs:List Value) (b' c' nW:Nat) (a2:Option Nat) (c2:Nat) (ws:List Int) (sv:Option Nat) (sc:Nat) (ss:List Int) (G:HP):HP :=
 star (pt p 116 cs) (star (bO 3 (some b') c' (S.begins++[(nW:Int)])) (star (bO 3 a2 c2 ws) (star (sl L.av L.W.length L.ac 27 1 (outer L.W)) (star (bO 3 sv sc ss) (star (stars (inner L.W)) G)))))
theorem bC.VB {G:HP} {l:List Int} {k nW ln b' c' c2:Nat} {a2:Option Nat} (hw:L.W.map (fun x=>x.2.2)=S.aj) (hk:S.cls.length=k) (hnW:S.words.length=nW) (hln:l.length=ln) (hs:¬ ln<2)
  (h:St B w0 w (qE p L S (((storeCells L S).set 2 (.slice (some ⟨b',0,none⟩) (k+1) c')).set 1 (.slice (a2.map fun b=>⟨b,0,none⟩) (nW+2+ln) c2)) b' c' nW a2 c2 (S.words++[0,1]++l) L.sv L.sc S.short G)) :
  bC B w0 w p { L with wv:=a2,wc:=c2,bv:=some b',bc:=c' } (S.kR l) G:=by
 subst hk hnW hln;refine⟨h.aB ?_,hw⟩;unfold iY qE;rw[S.lu,S.CO,S.sQ,if_neg hs,List.append_nil]
 have e1:storeCells { L with wv:=a2,wc:=c2,bv:=some b',bc:=c' } (S.kR l)=(((storeCells L S).set 2 (.slice (some ⟨b',0,none⟩) (S.cls.length+1) c')).set 1 (.slice (a2.map fun b=>⟨b,0,none⟩) (S.words.length+2+l.length) c2)):=by
  simp only[storeCells,S.lu,S.sQ,S.iP,if_neg hs,iB,List.append_nil,List.length_append,List.length_cons,List.set_cons_succ,List.set_cons_zero,Option.map_some]
  congr 3
  omega
 rw[e1,List.append_assoc];show _=star (star _ (star (bO 3 a2 c2 (S.words++0 :: 1 :: l)) _)) _;simp only[List.cons_append,List.nil_append]
 ac_rfl
theorem bC.RH {G:HP} {l:List Int} {k nW ln ns sb sc b' c' c2:Nat} {a2:Option Nat} (hw:L.W.map (fun x=>x.2.2)=S.aj) (hk:S.cls.length=k) (hnW:S.words.length=nW) (hln:l.length=ln) (hns:S.short.length=ns) (hs:ln<2)
  (h:St B w0 w (qE p L S ((((storeCells L S).set 2 (.slice (some ⟨b',0,none⟩) (k+1) c')).set 1 (.slice (a2.map fun b=>⟨b,0,none⟩) (nW+2+ln) c2)).set 4 (.slice (some ⟨sb,0,none⟩) (ns+1) sc)) b' c' nW a2 c2 (S.words++[0,1]++l) (some sb) sc (S.short++[(k:Int)]) G)) :
  bC B w0 w p { L with wv:=a2,wc:=c2,bv:=some b',bc:=c',sv:=some sb,sc:=sc } (S.kR l) G:=by
 subst hk hnW hln hns;refine⟨h.aB ?_,hw⟩;unfold iY qE;rw[S.lu,S.CO,S.sQ,if_pos hs]
 have e1:storeCells { L with wv:=a2,wc:=c2,bv:=some b',bc:=c',sv:=some sb,sc:=sc } (S.kR l)=((((storeCells L S).set 2 (.slice (some ⟨b',0,none⟩) (S.cls.length+1) c')).set 1 (.slice (a2.map fun b=>⟨b,0,none⟩) (S.words.length+2+l.length) c2)).set 4 (.slice (some ⟨sb,0,none⟩) (S.short.length+1) sc)):=by
  simp only[storeCells,S.lu,S.sQ,S.iP,if_pos hs,iB,List.length_append,List.length_cons,List.length_nil,List.set_cons_succ,List.set_cons_zero,Option.map_some]
  congr 3
  omega
 rw[e1,List.append_assoc];simp only[List.cons_append,List.nil_append]
 ac_rfl
theorem bC.ada {P:HP} (h:bC B w0 w p L S (star P F)):bC B w0 w p L S F :=
 ⟨(h.st.aB (show _=star (star (iY p L S) F) P by ac_rfl)).drop,h.ws⟩
theorem TU {xs l:List Int} {m nW ln:Nat} (h1:dx xs=0) (h2:bQ xs=l) (h3:S.most=m) (h4:S.words.length=nW) (h5:l.length=ln) (h6:¬ m<nW+2+ln):Dh S xs=(S.yQ l,S.cls.length,0):=by
 unfold Dh;rw[h1,h2,if_neg (by simp),if_neg (by rw[h3,h4,h5];exact h6)]
theorem RI {xs:List Int} {l:List Int} (hS:S.Inv) (hl:l=bQ xs) (hx:dx xs=0) (h2:¬ l.length<2) :
  ((S.kR l).aj.length≤1000000∧∀ x∈(S.kR l).aj,x.length≤1000000)∧(((S.kR l).watch (gi l 0) S.cls.length).aj.length≤1000000∧∀ x∈((S.kR l).watch (gi l 0) S.cls.length).aj,x.length≤1000000)∧(-65536≤gi l 0∧gi l 0≤65536)∧(-65536≤gi l 1∧gi l 1≤65536):=by
 have hok:=Gn hx;rw[←hl] at hok;have hw:=hS.KR;have hi0:=bD.1 (hok.lits _ (nZ (l:=l) (i:=0) (by omega)));have hi1:=bD.1 (hok.lits _ (nZ (l:=l) (i:=1) (by omega)));refine⟨⟨by show S.aj.length≤_;omega,fun x hx=>by have:=hS.short x hx;omega⟩,⟨?_,?_⟩,hi0.2,hi1.2⟩
 ·rw[SM.jG];have:=Gp (Gf hi0.2.1 hi0.2.2);show max S.aj.length _≤_;omega
 ·intro x hx;obtain⟨i,hi,rfl⟩:=List.getElem_of_mem hx;have e:((S.kR l).watch (gi l 0) S.cls.length).jm i=((S.kR l).watch (gi l 0) S.cls.length).aj[i]:=by unfold SM.jm;simp[hi]
  rw[←e,SM.sM,BP]
  have:(S.jm i).length≤262144:=by
   by_cases hlt:i<S.aj.length
   ·have e2:S.jm i=S.aj[i]:=by unfold SM.jm;simp[hlt]
    rw[e2];exact hS.short _ (List.getElem_mem hlt)
   ·unfold SM.jm;rw[List.getD_eq_getElem?_getD,List.getElem?_eq_none (by omega)];simp
  split
  ·rw[List.length_append];simp;omega
  ·omega
theorem abW (A:Option Addr) (n c:Nat) (xs:List Int) (h:bC B w0 w p L S F) (hS:S.Inv) (hr:Rd w A n xs) (hn:n≤1000000) :
  Calls Tryz.prog 63 #[.pointer (some ⟨p,0,none⟩),.slice A n c] w (abV B w0 p F (Dh S xs)):=by
 have hon:=Zm A n c xs w hr hn;have H:=zH h;have HS:=zH hS;obtain⟨er,her⟩:∃ er,dx xs=er:=⟨_,rfl⟩;unfold vg at hon;rw[her] at hon;have Zo:=zH her;have hlen:=hr.len;have hol:=u7 xs [];obtain⟨l,hl⟩:∃ l,bQ xs=l:=⟨_,rfl⟩;rw[hl] at hon;have hll:l.length≤n:=by rw[←hl];unfold bQ;simpa [hlen] using hol
 have HL:=zH hl;have HON:=zH hon;clear h hS hr her hlen hol hl hon
 by_cases hz:er=0
 ·subst hz;obtain⟨nW,hnW⟩:∃ nW,S.words.length=nW:=⟨_,rfl⟩;obtain⟨m,hm⟩:∃ m,S.most=m:=⟨_,rfl⟩;obtain⟨ln,hln⟩:∃ ln,l.length=ln:=⟨_,rfl⟩;obtain⟨k,hk⟩:∃ k,S.cls.length=k:=⟨_,rfl⟩;have hmb:m≤262144:=by rw[←hm];exact HS.out.most
  have hwb:nW≤m:=by rw[←hm,←hnW];exact HS.out.words
  have AZ:=zH hnW;have HM:=zH hm;have fP:=zH hln;have HK:=zH hk;rw[hln] at hll;clear hnW hm hln hk
  go_enter Tryz.func63,Tryz.ntmps63
  go_wp2_with (go_at_call 82;go_loud (refine (HON.out).mono ?_;rintro e w1 ⟨hgood,_⟩;obtain⟨oa,oc,rfl,k1⟩:=hgood rfl;have h1:bC B w0 w1 p L S (star (bO 3 oa oc l) F):=⟨(H.out.st.nest k1).aB (by ac_rfl),H.out.ws⟩;have c0:w1.cell? ⟨p,0,none⟩=some (.int .i64 m):=(h1.qJ.aG 0).trans (congrArg (fun (z:Nat)=>some (Value.int .i64 z)) HM.out);have c1:w1.cell? ⟨p,1,none⟩=some (.slice (L.wv.map fun b=>⟨b,0,none⟩) nW L.wc):=(h1.qJ.aG 1).trans (congrArg (fun (z:Nat)=>some (Value.slice (L.wv.map fun b=>⟨b,0,none⟩) z L.wc)) AZ.out);have c2:w1.cell? ⟨p,2,none⟩=some (.slice (L.bv.map fun b=>⟨b,0,none⟩) k L.bc):=(h1.qJ.aG 2).trans (congrArg (fun (z:Nat)=>some (Value.slice (L.bv.map fun b=>⟨b,0,none⟩) z L.bc)) HK.out);have H1:=zH h1;clear h1 k1 hgood;rw[fP.out];unfold iB))
  go_quiet (fail)
  by_cases hroom:m<nW+2+ln
  ·have hr1:(m:Int)<(nW:Int)+2+(ln:Int):=by omega
   go_wp2
   go_ret2
   refine⟨?_,L,?_⟩
   ·unfold Dh;rw[Zo.out,HL.out,if_neg (by simp),if_pos (by rw[HM.out,AZ.out,fP.out];exact hroom)];rfl
   ·unfold Dh;rw[Zo.out,HL.out,if_neg (by simp),if_pos (by rw[HM.out,AZ.out,fP.out];exact hroom)];have:=H1.out.drawn (w':=w1.drewN nq) ⟨_,rfl⟩;exact⟨(this.st.aB (show _=star (star (iY p L S) F) (bO 3 oa oc l) by ac_rfl)).drop,this.ws⟩
  ·have hr1:¬ ((m:Int)<(nW:Int)+2+(ln:Int)):=by omega
   go_wp2
   have hb2:=H1.out.drawn (w':=w1.drewN nq) ⟨_,rfl⟩;have d1:(w1.drewN nq).cell? ⟨p,1,none⟩=some (.slice (L.wv.map fun b=>⟨b,0,none⟩) nW L.wc):=c1;have d2:(w1.drewN nq).cell? ⟨p,2,none⟩=some (.slice (L.bv.map fun b=>⟨b,0,none⟩) k L.bc):=c2;obtain⟨w2,hw2⟩:∃ w2,w1.drewN nq=w2:=⟨_,rfl⟩;rw[hw2] at hb2 d1 d2 ⊢;clear hw2 c0 c1 c2;have hfo:=hb2.DR;have H2:=zH hb2;have n1:=World.new_ne w2 _ d1;have n2:=World.new_ne w2 _ d2;have e1:∀ o,(w2.alloc o).cell? ⟨p,1,none⟩=some (.slice (L.wv.map fun b=>⟨b,0,none⟩) nW L.wc):=fun o=>(World.cell?_alloc_some _ _ _ (by rw[d1];rfl)).trans d1;have e2:∀ o,(w2.alloc o).cell? ⟨p,2,none⟩=some (.slice (L.bv.map fun b=>⟨b,0,none⟩) k L.bc):=fun o=>(World.cell?_alloc_some _ _ _ (by rw[d2];rfl)).trans d2;have z2:p<w2.heap.size:=World.block_lt_of_cell? w2 _ d2;have hkb:k≤262144:=by rw[←HK.out];exact HS.out.refs
   have hkeep:∀ (b' c':Nat) (w':World),St B w0 w' (star (bO 3 (some b') c' (S.begins++[(nW:Int)])) (star (star (pt p 116 (storeCells L S)) (star (bO 3 L.wv L.wc S.words) (star (sl L.av L.W.length L.ac 27 1 (outer L.W)) (star (bO 3 L.sv L.sc S.short) (stars (inner L.W)))))) (star (bO 3 oa oc l) F))) →
     St B w0 w' (star (pt p 116 (storeCells L S)) (star (bO 3 (some b') c' (S.begins++[(nW:Int)])) (star (bO 3 L.wv L.wc S.words) (star (sl L.av L.W.length L.ac 27 1 (outer L.W)) (star (bO 3 L.sv L.sc S.short) (star (stars (inner L.W)) (star (bO 3 oa oc l) F)))))))
     ∧ w'.cell? ⟨p,1,none⟩=some (.slice (L.wv.map fun b=>⟨b,0,none⟩) nW L.wc)∧w'.cell? ⟨p,2,none⟩=some (.slice (L.bv.map fun b=>⟨b,0,none⟩) k L.bc)∧w'.frozen? ⟨p,2,none⟩=false:=by
    intro b' c' w' h2;have h3:St B w0 w' (star (pt p 116 (storeCells L S)) (star (bO 3 (some b') c' (S.begins++[(nW:Int)])) (star (bO 3 L.wv L.wc S.words) (star (sl L.av L.W.length L.ac 27 1 (outer L.W)) (star (bO 3 L.sv L.sc S.short) (star (stars (inner L.W)) (star (bO 3 oa oc l) F))))))):=h2.aB (by ac_rfl);refine⟨h3,?_,?_,h3.bU 2⟩
    ·rw[←AZ.out];exact h3.aG 1
    ·rw[←HK.out];exact h3.aG 2
   have HKP:=zH hkeep;clear hkeep hb2
   go_region_law ((refine tJ (by rfl) _ _ _ _ (by rfl) Tryz.underlying27 Tryz.gQ (hfo.drew.alloc _) k (by rw[S.jf];exact HK.out) (by rfl) _ (nW:Int) (by rfl) (by simp) (by omega) ?_;intro b' c' w3 h3;obtain⟨h4,g3,g4,g5⟩:=HKP.out _ _ _ h3))
   all_goals
    have h5:=h4.bM 2 (.slice (some ⟨b',0,none⟩) (k+1) c');obtain⟨w4,hw4⟩:∃ w4,w3.setCell ⟨p,2,none⟩ (.slice (some ⟨b',0,none⟩) (k+1) c')=w4:=⟨_,rfl⟩;rw[hw4] at h5 ⊢;have a1:w4.cell? ⟨p,1,none⟩=some (.slice (L.wv.map fun b=>⟨b,0,none⟩) nW L.wc):=(h5.aG 1).trans (congrArg (fun (z:Nat)=>some (Value.slice (L.wv.map fun b=>⟨b,0,none⟩) z L.wc)) AZ.out);have hws:St B w0 w4 (star (bO 3 L.wv L.wc S.words) (star (pt p 116 ((storeCells L S).set 2 (.slice (some ⟨b',0,none⟩) (k+1) c'))) (star (bO 3 (some b') c' (S.begins++[(nW:Int)])) (star (sl L.av L.W.length L.ac 27 1 (outer L.W)) (star (bO 3 L.sv L.sc S.short) (star (stars (inner L.W)) (star (bO 3 oa oc l) F))))))):=h5.aB (by ac_rfl)
    have HRL:=zH (show ∀ (w':World) (a:Option Nat) (c:Nat) (ws:List Int),St B w0 w' (star (bO 3 a c ws) (star (pt p 116 ((storeCells L S).set 2 (.slice (some ⟨b',0,none⟩) (k+1) c'))) (star (bO 3 (some b') c' (S.begins++[(nW:Int)])) (star (sl L.av L.W.length L.ac 27 1 (outer L.W)) (star (bO 3 L.sv L.sc S.short) (star (stars (inner L.W)) (star (bO 3 oa oc l) F)))))))→Rd w' (oa.map fun b=>⟨b,0,none⟩) ln l from fun w' a c ws hh=>fP.out▸St.rd (hh.aB (show _=star (bO 3 oa oc l) (star (bO 3 a c ws) (star (pt p 116 ((storeCells L S).set 2 (.slice (some ⟨b',0,none⟩) (k+1) c'))) (star (bO 3 (some b') c' (S.begins++[(nW:Int)])) (star (sl L.av L.W.length L.ac 27 1 (outer L.W)) (star (bO 3 L.sv L.sc S.short) (star (stars (inner L.W)) F)))))) by ac_rfl)) (by have:=fP.out;omega))
    have HPT:=zH (show ∀ (w':World) (a:Option Nat) (c:Nat) (ws:List Int),St B w0 w' (star (bO 3 a c ws) (star (pt p 116 ((storeCells L S).set 2 (.slice (some ⟨b',0,none⟩) (k+1) c'))) (star (bO 3 (some b') c' (S.begins++[(nW:Int)])) (star (sl L.av L.W.length L.ac 27 1 (outer L.W)) (star (bO 3 L.sv L.sc S.short) (star (stars (inner L.W)) (star (bO 3 oa oc l) F)))))))→St B w0 w' (qE p L S ((storeCells L S).set 2 (.slice (some ⟨b',0,none⟩) (k+1) c')) b' c' nW a c ws L.sv L.sc S.short (star (bO 3 oa oc l) F)) from fun w' a c ws hh=>hh.aB (by unfold qE;ac_rfl));have HW:=zH H2.out.ws;clear hw4 h3 h4 g3 g4 g5 hfo d1 d2 e1 e2 n1 n2 z2 HKP h5 HON
    by_cases hs2:ln<2
    ·have amk:(ln:Int)<2:=by omega
     obtain⟨ns,hns⟩:∃ ns,S.short.length=ns:=⟨_,rfl⟩;have HNS:=zH hns
     have hnsb:ns≤k:=by
      rw[←hns,S.Gl,List.length_map,←HK.out];unfold SM.Rz;exact Nat.le_trans (List.length_filter_le _ _) (by rw[List.length_range];exact Nat.le_refl _)
     have Ws:=zH (show ∀ (w':World) (cs:List Value) (a:Option Nat) (c:Nat) (ws:List Int) (sc:Nat),St B w0 w' (qE p L S cs b' c' nW a c ws L.sv sc S.short (star (bO 3 oa oc l) F))→St B w0 w' (star (bO 3 L.sv sc S.short) (star (pt p 116 cs) (star (bO 3 (some b') c' (S.begins++[(nW:Int)])) (star (bO 3 a c ws) (star (sl L.av L.W.length L.ac 27 1 (outer L.W)) (star (stars (inner L.W)) (star (bO 3 oa oc l) F))))))) from fun w' cs a c ws sc hh=>hh.aB (by unfold qE;ac_rfl))
     have HSI:=zH (show ∀ (w':World) (cs:List Value) (a:Option Nat) (c:Nat) (ws:List Int) (sv:Option Nat) (sc:Nat) (ss:List Int),St B w0 w' (star (bO 3 sv sc ss) (star (pt p 116 cs) (star (bO 3 (some b') c' (S.begins++[(nW:Int)])) (star (bO 3 a c ws) (star (sl L.av L.W.length L.ac 27 1 (outer L.W)) (star (stars (inner L.W)) (star (bO 3 oa oc l) F)))))))→St B w0 w' (qE p L S cs b' c' nW a c ws sv sc ss (star (bO 3 oa oc l) F)) from fun w' cs a c ws sv sc ss hh=>hh.aB (by unfold qE;ac_rfl));clear hns
     go_wp2_with (first
      | (refine gU rfl 27 _ _ rfl Tryz.Gq h12 4 (.slice (some ⟨sb,0,none⟩) (ns+1) sc') rfl rfl rfl (by simp[storeCells]) ?_;intro w9 FE;clear h12)
      | (refine gU rfl 27 _ _ rfl Tryz.Gq h8 1 (.slice (a2.map fun b=>⟨b,0,none⟩) (nW+2+ln) c2) rfl rfl rfl (by simp[storeCells]) ?_;intro w7 h9;have c4:w7.cell? ⟨p,4,none⟩=some (.slice (L.sv.map fun b=>⟨b,0,none⟩) ns L.sc):=(h9.aG 4).trans (congrArg (fun (z:Nat)=>some (Value.slice (L.sv.map fun b=>⟨b,0,none⟩) z L.sc)) HNS.out);have h10:=Ws.out _ _ _ _ _ _ h9;clear h9 h8)
      | (at_builtin;refine cO rfl _ _ 27 3 rfl Tryz.underlying27 Tryz.gQ h10 ns HNS.out rfl (k:Int) rfl (by omega) ?_;intro sb sc' w8 h11;have h12:=HSI.out _ _ _ _ _ _ _ _ h11;clear h10 h11)
      | (at_builtin;refine gG rfl _ _ 27 3 rfl Tryz.underlying27 Tryz.gQ h6 (nW+2) (by rw[List.length_append,AZ.out];rfl) (oa.map fun b=>⟨b,0,none⟩) ln oc l (HRL.out _ _ _ _ h6) rfl rfl (by omega) ?_;intro a2 c2 w6 h7;have h8:=HPT.out _ _ _ _ h7;clear h6 h7)
      | (at_builtin;refine gG rfl _ _ 27 3 rfl Tryz.underlying27 Tryz.gQ (hws.alloc _) nW AZ.out _ 2 2 [0,1] (Rd.Zn _ 0 1 _) rfl rfl (by omega) ?_;intro a1 c1 w5 h6))
     go_ret2
     have ha:=bC.RH HW.out HK.out AZ.out fP.out HNS.out hs2 FE;have he:=TU Zo.out HL.out HM.out AZ.out fP.out hroom;rw[he];refine⟨by rw[HK.out];rfl,{ L with wv:=a2,wc:=c2,bv:=some b',bc:=c',sv:=some sb,sc:=sc' },?_⟩;refine (?_:bC B w0 w9 p _ (S.yQ l) F);unfold SM.yQ;rw[if_pos (by rw[fP.out];exact hs2)];exact ha.ada
    ·have amk:¬ (ln:Int)<2:=by omega
     obtain⟨ob,hob⟩:∃ ob,oa=some ob:=by
      obtain⟨_,_,_,hnone,_⟩:=(H2.out.st.aB (show _=star (bO 3 oa oc l) (star (iY p L S) F) by ac_rfl)).sat.aR
      cases e:oa with
      | none=>have:=(hnone e).1;have:=fP.out;omega
      | some b=>exact⟨b,rfl⟩
     subst hob;have hwl:=RI HS.out HL.out.symm Zo.out (by rw[fP.out];exact hs2);rw[HK.out] at hwl;obtain⟨⟨ain,aio⟩,⟨aip,aiq⟩,hx0,hx1⟩:=hwl;have jK:=zH ain;have NG:=zH aio;have amm:=zH aip;have amn:=zH aiq
     have HRG:=zH (show ∀ (w':World) (L':sK) (S':SM),bC B w0 w' p L' S' (star (bO 3 (some ob) oc l) F)→∀ j,j<ln→w'.cell? ⟨ob,j,none⟩=some (.int .i64 (gi l j)) from fun w' L' S' hh j hj=>by
      have hh2:=hh.st.aB (show _=star (bO 3 (some ob) oc l) (star (iY p L' S') F) by ac_rfl)
      rw[St.aW (h:=hh2) j (by rw[dL,fP.out];exact hj),iZ _ _ (by rw[fP.out];exact hj)])
     have hln2:(1:Int)<(ln:Int):=by omega
     clear ain aio aip aiq;simp only[Option.map_some]
     go_wp2_with (first
      | (go_at_call 83;refine (JK (gi l 1) k HB.out hx1.1 hx1.2 (by omega) amm.out amn.out).mono ?_;rintro e w9 ⟨rfl,L9,h9,_⟩)
      | (go_at_call 83;refine (JK (gi l 0) k HA.out hx0.1 hx0.2 (by omega) jK.out NG.out).mono ?_;rintro e w8 ⟨rfl,L8,h8,_⟩;have HB:=zH h8;have q1:=HRG.out _ _ _ h8 1 (by omega);clear h8)
      | (refine gU rfl 27 _ _ rfl Tryz.Gq h8 1 (.slice (a2.map fun b=>⟨b,0,none⟩) (nW+2+ln) c2) rfl rfl rfl (by simp[storeCells]) ?_;intro w7 h9;have ha:=bC.VB HW.out HK.out AZ.out fP.out hs2 h9;have HA:=zH ha;have q0:=HRG.out _ _ _ ha 0 (by omega);clear ha h9 h8)
      | (at_builtin;refine gG rfl _ _ 27 3 rfl Tryz.underlying27 Tryz.gQ h6 (nW+2) (by rw[List.length_append,AZ.out];rfl) (some ⟨ob,0,none⟩) ln oc l (HRL.out _ _ _ _ h6) rfl rfl (by omega) ?_;intro a2 c2 w6 h7;have h8:=HPT.out _ _ _ _ h7;clear h6 h7)
      | (at_builtin;refine gG rfl _ _ 27 3 rfl Tryz.underlying27 Tryz.gQ (hws.alloc _) nW AZ.out _ 2 2 [0,1] (Rd.Zn _ 0 1 _) rfl rfl (by omega) ?_;intro a1 c1 w5 h6))
     go_ret2
     have he:=TU Zo.out HL.out HM.out AZ.out fP.out hroom;rw[he];refine⟨by rw[HK.out];rfl,L9,?_⟩;refine (?_:bC B w0 w9 p _ (S.yQ l) F);unfold SM.yQ;rw[if_neg (by rw[fP.out];exact hs2),HK.out];exact h9.ada
 ·have hz':(er != 0)=true:=by simpa using hz
  go_enter Tryz.func63,Tryz.ntmps63
  go_wp2_with (go_at_call 82;refine (HON.out).mono ?_;rintro e w1 ⟨_,hbad⟩;obtain⟨rfl,k1⟩:=hbad hz)
  go_ret2
  refine⟨?_,L,?_⟩
  ·unfold Dh;rw[if_pos (by rw[Zo.out];exact hz),Zo.out];rfl
  ·unfold Dh;rw[if_pos (by rw[Zo.out];exact hz)];exact⟨(H.out.st.nest k1).aB (iA _),H.out.ws⟩
end
end Go.Proofs.YthbbmdnfkkffjaaGreat

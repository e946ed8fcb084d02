/-
  The contract of package sat's Trace, in every state.
-/
import Derived.Test.YthbbmdnfkkffjaaGreatYPf2
import Derived.Test.YthbbmdnfkkffjaaGreatYOpenH
import Derived.Test.YthbbmdnfkkffjaaGreatY21
import Derived.Test.YthbbmdnfkkffjaaGreatY01
set_option maxHeartbeats 8000000
set_option maxRecDepth 100000
namespace Go.Proofs.YthbbmdnfkkffjaaGreat
open Go Go.Maps
open Go.RowKit Go.Proofs.aC Go.Proofs.aA
open Go.Proofs.au hiding SM
theorem look_empty {P:Program} {k e t:TypeId} {b:Nat} {w:World} (K:Keyed P k) (ht:P.underlying t=some (.map k e)) (hk:P.underlying k=some (.int .i64)) (hz:∀ w,(zeroValue e).run P w=.ok (.int .i64 0) w) (hb:w.heap[b]?=some (.map #[] 0)) (x:Int) (hx:(Lit.int .i64 x).wf=true) :
  (Instr.lookup t (.map (some b)) (.int .i64 x) true).run P w=.ok (.tuple #[.int .i64 0,.bool false]) w:=by
 rcases Maps.fit_look (R:=plainElem (H:=Unit) P e) true K ht (hz w) hb ⟨by simp,MapKept.stamped_empty 0,by simp⟩ (keyOf_int_mk hk hx) with ⟨hrun,_,_⟩ | ⟨e0,y,hm,_⟩
 ·exact hrun
 ·simp at hm
section
variable {B:Nat} {w0 w:World} {p:Nat} {M:MM} {F:HP}
theorem refut_nil (h:At B w0 w p M F) (hl:M.sv.last=[]) :
  Calls Tryz.prog 54 #[.pointer (some ⟨p,0,none⟩),.slice none 0 0] w fun e w'=>e=.returned (.tuple #[.slice none 0 0,.bool false])∧At B w0 w' p M F:=by
 have hl2:M.last.xs=[]:=hl;have c1:=h.uy;have hn:=h.bA hl2;rw[hn] at c1;have H:=zH h;clear h hl hl2 hn;have e1:=Tryz.isNil M.last.xs.length M.last.c
 go_enter Tryz.func54,Tryz.ntmps54
 go_wp2
 go_ret2
 exact⟨rfl,H.out⟩
theorem refut_core (h:At B w0 w p M F) (hl:M.sv.last≠[]) (hlen:M.sv.last.length≤1000000) (hc:M.sv.core≠[]) (hw:∀ x∈M.sv.core,x.natAbs≤1000000) :
  Calls Tryz.prog 54 #[.pointer (some ⟨p,0,none⟩),.slice none 0 0] w fun e w'=>e=.returned (.tuple #[.slice none 0 0,.bool false])∧At B w0 w' p M F:=by
 obtain⟨nl,hnl⟩:∃ n,M.last.xs.length=n:=⟨_,rfl⟩;obtain⟨cl,hcl⟩:∃ n,M.core.xs.length=n:=⟨_,rfl⟩;have hpos:0<M.last.xs.length:=List.length_pos_iff.2 hl;have hcp:0<M.core.xs.length:=List.length_pos_iff.2 hc;obtain⟨lb,hlb⟩:=h.Wz hpos;obtain⟨cb,hcb⟩:=h.b_coreH hcp;have c1:=h.uy;rw[hlb,hnl] at c1;have YZ:nl≤1000000:=by rw[←hnl];exact hlen
 have hrd:∀ w1,At B w0 w1 p M F→Rd w1 (some ⟨lb,0,none⟩) nl M.last.xs:=fun w1 h1=>by
  have:=At.ab5 h1 (by omega);rw[hlb,hnl] at this;exact this
 obtain⟨x,hx⟩:∃ x,M.core.xs[0]?=some x:=⟨M.core.xs[0],by simp[hcp]⟩;have hxw:(Lit.int .i64 x).wf=true:=KS (hw x (List.mem_of_getElem? hx));rw[hcl] at hcp;have H:=zH h;have HL:=zH hl;have vR:=zH hnl;have jW:=zH hcl;have Qb:=zH (show (M.last.a.map fun b=>(⟨b,0,none⟩:Addr))=some ⟨lb,0,none⟩ by rw[hlb];rfl);have HCB:=zH hcb;have HCA:=zH (show (M.core.a.map fun b=>(⟨b,0,none⟩:Addr))=some ⟨cb,0,none⟩ by rw[hcb];rfl);have Gs:=zH hrd;have HX:=zH hx;have HXW:=zH hxw;clear h hl hrd hlb hnl hcl hcb hx hxw hc hw hlen hpos
 go_enter Tryz.func54,Tryz.ntmps54
 have e1:=Tryz.aiy ⟨lb,0,none⟩ nl M.last.c;have hmm:=@run_makeMap Tryz.prog
 go_wp2
 have h1:=H.out.alloc (Obj.map #[] 0);have hmb:(w.alloc (Obj.map #[] 0)).heap[w.heap.size]?=some (.map #[] 0):=heap_alloc_new w _;obtain⟨mb,hmbn⟩:∃ m,w.heap.size=m:=⟨_,rfl⟩;rw[hmbn] at hmb ⊢;revert h1 hmb;generalize w.alloc (Obj.map #[] 0)=w1;intro h1 hmb;have H1:=zH h1;have HMB:=zH hmb;clear h1 c1 H hmm hmb hmbn
 go_loopg [22] 0 (fun g s22 wr=>s22=.int .i64 0∧Hid (g=0)∧Hid (At B w0 wr p M F)∧Hid (wr.heap[mb]?=some (.map #[] 0)))
 case atStart=>exact⟨rfl,rfl,H1.out,HMB.out⟩
 case round =>
  clear H1 HMB;obtain⟨rfl,_,H2,HMB⟩:=hrel;have e2:decide ((0:Int)<0)=false:=by simp
  have c1:=H2.out.uy;rw[vR.out] at c1;have aiz:=zH (Gs.out wr H2.out);have hla:(M.last.a.map fun b=>(⟨b,0,none⟩:Addr))=some ⟨lb,0,none⟩:=Qb.out;rw[hla] at c1
  go_wp2_with fail
  refine (qZ (some ⟨lb,0,none⟩) nl M.last.c M.last.xs wr aiz.out YZ).mono ?_
  rintro e w3 ⟨fa,fc,rfl,k1⟩
  have h3:=H2.out.nest k1
  have hmb3:w3.heap[mb]?=some (.map #[] 0):=by
   have hlt:mb<wr.heap.size:=(Array.getElem?_eq_some_iff.1 HMB.out).1;rw[k1.below.block mb hlt];exact HMB.out
  have H3:=zH (h3.frame (show _=star (bO 3 fa fc M.last.xs) F by ac_rfl));have HMB3:=zH hmb3;have c3:=h3.uw;rw[jW.out] at c3;have hca:(M.core.a.map fun b=>(⟨b,0,none⟩:Addr))=some ⟨cb,0,none⟩:=HCA.out;rw[hca] at c3;clear k1 h3 c1 hla hca aiz hmb3;unfold iB;rw[vR.out]
  go_wp2
  clear c3
  go_loopg [9,47] 0 (fun g s9 s47 wr2=>s9=.slice (fa.map fun b=>⟨b,0,none⟩) nl fc∧s47=.int .i64 0∧Hid (g=0)∧Hid (At B w0 wr2 p M (star (bO 3 fa fc M.last.xs) F))∧Hid (wr2.heap[mb]?=some (.map #[] 0)))
  case atStart=>exact⟨rfl,rfl,rfl,H3.out,HMB3.out⟩
  case round =>
   clear H3 H2 HMB HMB3;obtain⟨rfl,rfl,_,H4,HMB⟩:=hrel;have e3:decide ((0:Int)<(cl:Int))=true:=by simp;omega
   have d1:wr.cell? ⟨cb,0,none⟩=some (.int .i64 x):=(H4.out.r_coreH HCB.out HX.out).1;have hlk:=look_empty (w:=wr) Tryz.DK Tryz.underlying102 Tryz.underlying3 Tryz.YC HMB.out x HXW.out
   go_wp2
   go_ret2
   exact⟨rfl,H4.out.iL⟩
end
theorem sumN_mul (l:List (List Int)) (h:∀ x∈l,x.length≤1000000):∀ j,j≤l.length→Dj l j≤j*1000000
 | 0,_=>by unfold Dj;simp
 | j+1,hj=>by
  have h1:=sumN_mul l h j (by omega);have h2:=wu l (j:=j) (by omega);have h3:=h (gl l j) (by rw[jq l j (by omega)];exact List.getElem_mem _);rw[Nat.succ_mul];omega
theorem encode_long (A:Option Addr) (n cap:Nat) (l:List (List Int)) (w:World) (hr:um w A n l) (hn:n≤1000001) (hrow:∀ x∈l,x.length≤1000000) (hsum:4194304<8+4*n+4*(l.map List.length).sum) :
  Calls Tryz.prog 56 #[.slice A n cap] w fun e w'=>Below w.heap.size w w'∧((Di l).2=0→e=.returned (.tuple #[.slice none 0 0,.int .i64 123]))∧((Di l).2≠0→e=.returned (.tuple #[.slice none 0 0,.int .i64 (Di l).2])):=by
 have HR:=zH hr;have yS:=zH hsum;have hnb:n≤1048576:=by omega
 have adf:∀ j,j<n→(gl l j).length≤1048576:=fun j hj=>by
  have:=hrow (gl l j) (by rw[jq l j (by have:=hr.len;omega)];exact List.getElem_mem _);omega
 have HSN:=zH (sumN_mul l hrow);have HE:=zH adf;clear hr hsum adf hrow
 go_enter Tryz.func56,Tryz.ntmps56
 go_wp2
 go_loopw [4,16] (fun v4 v16 wr=>∃ j:Nat,j≤n∧v16=.int .i64 j∧(∃ s:Nat,v4=.int .i64 s∧Hid (s=8+4*j+4*Dj l j))∧Below w.heap.size w wr∧Hid (∀ i,i<j→∀ t,t<(gl l i).length→TW (gi (gl l i) t)=true)) (fun _ v16 _=>n-(intOf v16).toNat)
 case atStart=>exact⟨0,Nat.zero_le _,rfl,⟨8,rfl,rfl⟩,Below.refl _ _,(fun i hi=>absurd hi (Nat.not_lt_zero i):∀ i,i<0→_)⟩
 case round =>
  obtain⟨j,hj,rfl,⟨s,rfl,HS⟩,hB,fA⟩:=hrel
  have hsb:s≤10000000000000:=by
   have h1:=HS.out;have h2:=HSN.out j (by have:=HR.out.len;omega);omega
  by_cases hjn:j<n
  ·obtain⟨ab,ao,hA,hc⟩:=(HR.out.grow hB).cells (by omega);subst hA;obtain⟨Aj,cj,d1,kC⟩:=hc j hjn;have hsm:=HE.out j hjn;obtain⟨xs,hxs⟩:∃ xs,gl l j=xs:=⟨_,rfl⟩;obtain⟨ln,hln⟩:∃ ln,xs.length=ln:=⟨_,rfl⟩;rw[hxs,hln] at d1 kC;rw[hxs,hln] at hsm;have hsn:=wu l (j:=j) (by have:=HR.out.len;omega);rw[hxs,hln] at hsn;have HSN2:=zH hsn;have Wl:=zH hxs;have fP:=zH hln;have HB:=zH hB;have Gy:=zH (kC);have hj0:(0:Int)≤(j:Int):=by omega
   have hj1:(j:Int)<(n:Int):=by omega
   clear hc hxs hln hsn hB kC;have HB2:=zH (show Below w.heap.size w (wr.alloc (.cells #[.slice Aj ln cj] 106)) from HB.out.alloc HB.out.size _);have aix:=zH (Gy.out.grow (show Below wr.heap.size wr (wr.alloc (.cells #[.slice Aj ln cj] 106)) from (Below.refl _ _).alloc (Nat.le_refl _) _))
   go_wp2
   obtain⟨w2,hw2⟩:∃ w2,wr.alloc (.cells #[.slice Aj ln cj] 106)=w2:=⟨_,rfl⟩;rw[hw2] at HB2 aix ⊢;clear hw2 d1
   go_loop [4,25] (fun v4 v25=>∃ t:Nat,t≤ln∧v25=.int .i64 t∧v4=.int .i64 ((s:Int)+4+4*t)∧Hid (∀ i,i<t→TW (gi xs i)=true)) (fun _ v25=>ln-(intOf v25).toNat)
   case atStart=>exact⟨0,Nat.zero_le _,rfl,by simp,(fun i hi=>absurd hi (Nat.not_lt_zero i):∀ i,i<0→_)⟩
   case round =>
    obtain⟨t,ht,rfl,rfl,HT⟩:=hrel
    by_cases htn:t<ln
    ·obtain⟨bx,ox,hAj,hcx⟩:=aix.out.cells (by omega);subst hAj;have d2:=hcx t htn;obtain⟨x,hx⟩:∃ x,gi xs t=x:=⟨_,rfl⟩;rw[hx] at d2;have HX:=zH hx;have t0:(0:Int)≤(t:Int):=by omega
     have t1:(t:Int)<(ln:Int):=by omega
     clear hcx hx
     by_cases h0:x<0
     ·have e0:decide (x<0)=true:=by simpa using h0
      have hbad:=NY (l:=l) (j:=j) (t:=t) (by have:=HR.out.len;omega) (by rw[Wl.out,fP.out];exact htn) (by rw[Wl.out,HX.out];simp[TW];omega);have HBAD:=zH hbad;clear hbad
      go_wp2
      go_ret2
      exact⟨HB2.out,fun h=>(by rw[HBAD.out] at h;cases h),fun _=>by rw[HBAD.out];rfl⟩
     ·have e0:decide (x<0)=false:=by simpa using h0
      by_cases h1:2147483647<x
      ·have e1:decide (2147483647<x)=true:=by simpa using h1
       have hbad:=NY (l:=l) (j:=j) (t:=t) (by have:=HR.out.len;omega) (by rw[Wl.out,fP.out];exact htn) (by rw[Wl.out,HX.out];simp[TW];omega);have HBAD:=zH hbad;clear hbad
       go_wp2
       go_ret2
       exact⟨HB2.out,fun h=>(by rw[HBAD.out] at h;cases h),fun _=>by rw[HBAD.out];rfl⟩
      ·have e1:decide (2147483647<x)=false:=by simpa using h1
       have hok:TW x=true:=DT.2 (by omega);have ae9:=zH hok;clear hok h0 h1
       go_wp2
       go_round
       case rel =>
        refine⟨t+1,by omega,by go_num,by rw[show (s:Int)+4+4*((t+1:Nat):Int)=(s:Int)+4+4*(t:Int)+4 by omega],(fun i hi=>?_:∀ i,i<t+1→TW (gi xs i)=true)⟩
        by_cases e:i=t
        ·rw[e,HX.out];exact ae9.out
        ·exact HT.out i (by omega)
       case measure=>simp[intOf];omega
    ·obtain rfl:t=ln:=by omega
     go_wp2
     go_roundw
     case rel =>
      refine⟨j+1,by omega,by go_num,⟨s+4+4*t,by simp,(by rw[HSN2.out];have:=HS.out;omega:s+4+4*t=8+4*(j+1)+4*Dj l (j+1))⟩,HB2.out,(fun i hi=>?_:∀ i,i<j+1→∀ u,u<(gl l i).length→TW (gi (gl l i) u)=true)⟩
      by_cases e:i=j
      ·rw[e,Wl.out];intro u hu;exact HT.out u (by rw[←fP.out];exact hu)
      ·exact fA.out i (by omega)
     case measure=>simp[intOf];omega
  ·obtain rfl:j=n:=by omega
   have hlen:=HR.out.len;have hgood:=VO (l:=l) (fun i hi t ht=>fA.out i (by omega) t ht)
   have hs:4194304<s:=by
    have h1:=HS.out;rw[NW l (by omega)] at h1;have:=yS.out;omega
   have jL:=zH hgood;have HB:=zH hB;have hds:decide (4194304<(s:Int))=true:=by simp;omega
   clear hlen hgood hs hB fA HS
   go_wp2
   go_ret2
   exact⟨HB.out,fun _=>rfl,fun k=>by rw[jL.out] at k;exact absurd rfl k⟩
end Go.Proofs.YthbbmdnfkkffjaaGreat
set_option maxHeartbeats 8000000
set_option maxRecDepth 100000
namespace Go.Proofs.YthbbmdnfkkffjaaGreat
open Go.RowKit Go.Proofs.aC Go.Proofs.aA
open Go.Proofs.au hiding SM
theorem nLay_len2 (now l:List Int):(kS now l).length=l.length:=by unfold kS;simp
theorem nOut_rows (steps:List (List Int)) (need:List Bool) (n L:Nat) (h:∀ x∈steps,x.length≤L):∀ (f i:Nat) (now:List Int) (out:List (List Int)),(∀ x∈out,x.length≤L)→(∀ x∈(NR steps need n f i now out).2,x.length≤L)∧(NR steps need n f i now out).2.length≤out.length+f
 | 0,i,now,out,ho=>⟨ho,Nat.le_refl _⟩
 | f+1,i,now,out,ho=>by
  rw[NR]
  split
  ·obtain⟨a,b⟩:=nOut_rows steps need n L h f (i+1) (now.set i ((n:Int)+out.length)) (out++[kS (now.set i ((n:Int)+out.length)) (gl steps i)]) fun x hx=>by
    rcases List.mem_append.1 hx with m | m
    ·exact ho x m
    ·rw[List.mem_singleton] at m;subst m;rw[nLay_len2]
     by_cases hi:i<steps.length
     ·exact h _ (by rw[jq _ _ hi];exact List.getElem_mem _)
     ·have e:gl steps i=[]:=by unfold gl;rw[List.getD_eq_getElem?_getD,List.getElem?_eq_none (by omega)];rfl
      rw[e];exact Nat.zero_le _
   exact⟨a,by rw[List.length_append,List.length_singleton] at b;omega⟩
  ·obtain⟨a,b⟩:=nOut_rows steps need n L h f (i+1) now out ho;exact⟨a,by omega⟩
theorem needed_rows {steps:List (List Int)} {last:List Int} {n L:Nat} (h:∀ x∈steps,x.length≤L) (hl:last.length≤L):(∀ x∈nk steps last n,x.length≤L)∧(nk steps last n).length≤steps.length+1:=by
 unfold nk;simp only;obtain⟨a,b⟩:=nOut_rows steps (nGo steps steps.length (p8 (List.replicate steps.length false) last)) n L h steps.length 0 (List.replicate steps.length 0) [] (fun x hx=>by cases hx);refine⟨fun x hx=>?_,by rw[List.length_append,List.length_singleton];rw[List.length_nil] at b;omega⟩;rcases List.mem_append.1 hx with m | m
 ·exact a x m
 ·rw[List.mem_singleton] at m;subst m;rw[nLay_len2];exact hl
def trG (S:aA.SM):List Int×Int :=
 if S.last=[]∨S.told≠2∨S.core≠[] then ([],122)
 else if 4194304<8+4*(nk S.steps S.last S.given.length).length+4*((nk S.steps S.last S.given.length).map List.length).sum then (if (Di (nk S.steps S.last S.given.length)).2=0 then ([],123) else ([],(Di (nk S.steps S.last S.given.length)).2))
 else Di (nk S.steps S.last S.given.length)
section
variable {B:Nat} {w0 w:World} {q:Nat} {S:aA.SM} {F:HP}
def TracePost (B:Nat) (w0:World) (q:Nat) (S:aA.SM) (F:HP) (e:Ending) (w':World):Prop :=
 ((trG S).2=0→∃ a c,e=.returned (.tuple #[.slice (Option.map (fun b=>(⟨b,0,none⟩:Addr)) a) (trG S).1.length c,.int .i64 0])∧bL B w0 w' q S (star (Ba 5 a c (trG S).1) F)∧(trG S).1.length≤c∧c≤9223372036854775807) ∧
 ((trG S).2≠0→e=.returned (.tuple #[.slice none 0 0,.int .i64 (trG S).2])∧bL B w0 w' q S F)
theorem trace_gen (h:bL B w0 w q S F) (hnd:ae4 S S.last) (hg:S.given.length≤1000000) (hc:∀ x∈S.core,x.natAbs≤1000000) :
  Calls Tryz.prog 31 #[.pointer (some ⟨q,0,none⟩)] w (TracePost B w0 q S F):=by
 obtain⟨hrow,hnl⟩:=needed_rows (n:=S.given.length) (fun x hx=>(hnd.rows x hx).1) hnd.last.1;have ahm:(nk S.steps S.last S.given.length).length≤1000001:=by have:=hnd.steps;omega
 by_cases hA:S.core=[]∧(S.last=[]∨8+4*(nk S.steps S.last S.given.length).length+4*((nk S.steps S.last S.given.length).map List.length).sum≤4194304)
 ·have e:trG S=iI S:=by
   unfold trG iI
   by_cases h1:S.last=[]
   ·rw[if_pos (.inl h1),if_pos (.inl h1)]
   ·by_cases h2:S.told=2
    ·rw[if_neg (by intro k;rcases k with k | k | k;exact h1 k;exact k h2;exact k hA.1),if_neg (by have:=hA.2.resolve_left h1;omega),if_neg (by intro k;rcases k with k | k;exact h1 k;exact k h2)]
    ·rw[if_pos (.inr (.inl h2)),if_pos (.inr h2)]
  unfold TracePost;rw[e];exact Lm h ⟨hA.1,fun _=>hnd,hg,fun k=>hA.2.resolve_left k⟩
 ·unfold TracePost;obtain⟨p,M,h1,h2⟩:=h
  by_cases hcore:S.core=[]
  ·have hlast:S.last≠[]:=fun k=>hA ⟨hcore,.inl k⟩
   have hbig:4194304<8+4*(nk S.steps S.last S.given.length).length+4*((nk S.steps S.last S.given.length).map List.length).sum:=by
    apply Classical.byContradiction;intro k;exact hA ⟨hcore,.inr (by omega)⟩
   have hrf:=VR h1 (by rw[h2];exact hcore) (by rw[h2];exact fun _=>hnd) (by rw[h2];exact hg);rw[h2] at hrf;have k0:=bL.c h1;have YE:=zH hrf;have HS:=zH h2;have HC:=zH hcore;have HBIG:=zH hbig;have Dc:=zH hrow;have vR:=zH ahm;obtain⟨R,hR⟩:∃ R,trG S=R:=⟨_,rfl⟩;rw[hR];have HR:=zH hR;have hk:=hlast;clear h1 h2 hrf hR hcore hbig hrow hnl ahm hA hnd hc hg
   go_enter Tryz.func31,Tryz.ntmps31
   go_wp2_with fail
   refine YE.out.mono ?_
   rintro e w1 (⟨hl,_,_⟩ | ⟨hl,a,c,ol,W,rfl,hW,h3,hN⟩)
   ·exact absurd hl hk
   ·have htd:=Va h3;have hts:M.told=S.told:=congrArg SM.told HS.out;rw[hts] at htd;have k1:w1.cell? ⟨q,0,none⟩=some (.pointer (some ⟨p,0,none⟩)):=bL.c (F:=star (bR 106 a c W) F) (h3.frame (by ac_rfl));have HTD:=zH htd;have H3:=zH h3;have HL:=zH hl;have HW:=zH hW;have HN:=zH hN;clear htd h3 hl hW hN YE hts k0 hk hlast
    by_cases h2t:S.told=2
    ·have e1:decide (S.told=2)=true:=by simpa using h2t
     obtain⟨l,hl⟩:∃ l,nk S.steps S.last S.given.length=l:=⟨_,rfl⟩;have hb:=HBIG.out;have hrow:=Dc.out;have hnl:=vR.out;have hn2:=HN.out;rw[hl] at hb hrow hnl hn2
     have ht:R=if (Di l).2=0 then ([],123) else ([],(Di l).2):=by
      rw[←HR.out];unfold trG;rw[if_neg (by intro k;rcases k with k | k | k;exact HL.out k;exact k h2t;exact k HC.out),hl,if_pos hb]
     have HT:=zH ht;have hll:l.length=ol:=by rw[←hn2,List.length_map];exact HW.out
     have hrd:=pF (H3.out.st.aB (show _=star (bR 106 a c W) (star (stars (parts p M)) (star (pt q 67 [.pointer (some ⟨p,0,none⟩)]) F)) by ac_rfl)) (fun x hx=>by
      have hm:x.2.2∈l:=by rw[←hn2];exact List.mem_map.2 ⟨x,hx,rfl⟩
      have:=hrow _ hm
      omega) (by rw[HW.out];omega)
     rw[HW.out,hn2] at hrd;have HE:=zH (encode_long _ ol c l w1 hrd (by omega) hrow (by rw[←hll];exact hb));clear hrd hb hn2 ht hl hll hrow hnl
     go_wp2_with fail
     refine HTD.out.mono ?_
     rintro e w2 ⟨rfl,rfl⟩
     go_wp2_with fail
     refine HE.out.mono ?_
     rintro e w3 ⟨hbel,hg,hb⟩
     have h8:=(H3.out.grow hbel).frame (show _=star (bR 106 a c W) (star (pt q 67 [.pointer (some ⟨p,0,none⟩)]) F) by ac_rfl);have HI:=zH (show bL B w0 w3 q S F from⟨p,M,h8.iL,HS.out⟩)
     by_cases h0:(Di l).2=0
     ·have he:=hg h0;subst he;have HR1:=zH (show R=([],123) by rw[HT.out,if_pos h0]);clear hg hb h8 h0 HE HTD hbel
      go_wp2
      go_ret2
      exact⟨fun k=>(by rw[HR1.out] at k;cases k),fun _=>⟨by rw[HR1.out];rfl,HI.out⟩⟩
     ·have he:=hb h0;subst he;have HR1:=zH (show R=([],(Di l).2) by rw[HT.out,if_neg h0]);have H0:=zH h0;clear hg hb h8 h0 HE HTD hbel
      go_wp2
      go_ret2
      exact⟨fun k=>(by rw[HR1.out] at k;exact absurd k H0.out),fun _=>⟨by rw[HR1.out];rfl,HI.out⟩⟩
    ·have e1:decide (S.told=2)=false:=by simpa using h2t
     have ht:R=([],122):=by rw[←HR.out];unfold trG;rw[if_pos (.inr (.inl h2t))]
     have HT:=zH ht;have HI:=zH (show bL B w0 w1 q S F from⟨p,M,H3.out.iL,HS.out⟩);clear ht
     go_wp2_with fail
     refine HTD.out.mono ?_
     rintro e w2 ⟨rfl,rfl⟩
     go_wp2
     go_ret2
     exact⟨fun k=>(by rw[HT.out] at k;cases k),fun _=>⟨by rw[HT.out];rfl,HI.out⟩⟩
  ·have hrf:Calls Tryz.prog 54 #[.pointer (some ⟨p,0,none⟩),.slice none 0 0] w fun e w'=>e=.returned (.tuple #[.slice none 0 0,.bool false])∧At B w0 w' p M (star (pt q 67 [.pointer (some ⟨p,0,none⟩)]) F):=by
    by_cases hl:S.last=[]
    ·exact refut_nil h1 (by rw[h2];exact hl)
    ·exact refut_core h1 (by rw[h2];exact hl) (by rw[h2];exact hnd.last.1) (by rw[h2];exact hcore) (by rw[h2];exact hc)
   have k0:=bL.c h1;have YE:=zH hrf;have HS:=zH h2;have HT:=zH (show trG S=([],122) by unfold trG;rw[if_pos (.inr (.inr hcore))]);obtain⟨R,hR⟩:∃ R,trG S=R:=⟨_,rfl⟩;rw[hR] at HT ⊢;clear h1 h2 hrf hR hcore hrow hnl ahm hA hnd hc hg
   go_enter Tryz.func31,Tryz.ntmps31
   go_wp2_with fail
   refine YE.out.mono ?_
   rintro e w1 ⟨rfl,h3⟩
   have HI:=zH (show bL B w0 w1 q S F from⟨p,M,h3,HS.out⟩);clear h3 YE
   go_wp2
   go_ret2
   exact⟨fun k=>(by rw[HT.out] at k;cases k),fun _=>⟨by rw[HT.out];rfl,HI.out⟩⟩
end
end Go.Proofs.YthbbmdnfkkffjaaGreat

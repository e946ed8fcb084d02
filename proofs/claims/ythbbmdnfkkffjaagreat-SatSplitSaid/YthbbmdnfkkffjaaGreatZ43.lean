/-
  Parts of the proof, joined by program: Trc, Rise, DerM, Mset.
-/
import Derived.Test.YthbbmdnfkkffjaaGreatZ41
import Derived.Test.YthbbmdnfkkffjaaGreatZ42
import Derived.Test.YthbbmdnfkkffjaaGreatZ34
import Derived.Test.YthbbmdnfkkffjaaGreatZ23
import Derived.Maps.OwnSet
import Derived.Lib.SlKeysI
namespace Go.Proofs.YthbbmdnfkkffjaaGreat
open Go.RowKit Go.Proofs.PlaitSep Go.Proofs.PlaitSat
open Go.Proofs.PlaitPure hiding SM
theorem At.rd_last {B:Nat} {w0 w:World} {p:Nat} {M:MM} {F:HP} (h:At B w0 w p M F) (hs:M.last.xs.length≤1000000):Rd w (M.last.a.map fun b=>⟨b,0,none⟩) M.last.xs.length M.last.xs:=St.rd (t:=3) (a:=M.last.a) (c:=M.last.c) (xs:=M.last.xs) h.t_last (by omega)
theorem Tryz.isNil (n c:Nat) (w:World):Sem.run Tryz.prog (binOp BinOp.eql 27 (Value.slice none n c) (Value.slice none 0 0)) w=.ok (.bool true) w:=by kernel_rfl
theorem Tryz.isNot (a:Addr) (n c:Nat) (w:World):Sem.run Tryz.prog (binOp BinOp.eql 27 (Value.slice (some a) n c) (Value.slice none 0 0)) w=.ok (.bool false) w:=by kernel_rfl
section
variable {B:Nat} {w0 w:World} {p:Nat} {M:MM} {F:HP}
set_option maxRecDepth 100000 in
set_option maxHeartbeats 4000000 in
theorem refut_any (h:At B w0 w p M F) (hc:M.sv.core=[]) (hok:M.sv.last≠[]→NdOk M.sv M.sv.last) (hg:M.sv.given.length≤1000000) :
  Calls Tryz.prog 54 #[.pointer (some ⟨p,0,none⟩),.slice none 0 0] w fun e w' =>
   (M.sv.last=[]∧e=.returned (.tuple #[.slice none 0 0,.bool false])∧At B w0 w' p M F) ∨
   (M.sv.last≠[]∧∃ (a:Option Nat) (c ol:Nat) (W:Rws),e=.returned (.tuple #[.slice (a.map fun b=>⟨b,0,none⟩) ol c,.bool true])∧W.length=ol∧At B w0 w' p M (star (rwsHP 106 a c W) F)∧W.map (fun x=>x.2.2)=neededF M.sv.steps M.sv.last M.sv.given.length):=by
 have hcl:M.core.xs.length=0:=by have h1:M.core.xs=[]:=hc;rw[h1];rfl
 have c1:=h.c_last
 obtain⟨gn,hgn⟩:∃ n,M.given.xs.length=n:=⟨_,rfl⟩
 have hgn2:M.sv.given.length=gn:=by show (M.given.xs.map _).length=gn;rw[List.length_map];exact hgn
 rw[hgn2] at hg ⊢
 by_cases hl:M.last.xs=[]
 ·have hn:=h.lastN hl
  rw[hn] at c1
  have H:=Lib.hid h
  have HL:=Lib.hid hl
  clear h hok hl hn
  have e1:=Tryz.isNil M.last.xs.length M.last.c
  go_enter Tryz.func54,Tryz.ntmps54
  go_wp2
  go_ret2
  exact .inl ⟨HL.out,rfl,H.out⟩
 ·obtain⟨nl,hnl⟩:∃ n,M.last.xs.length=n:=⟨_,rfl⟩
  have hpos:0<M.last.xs.length:=List.length_pos_iff.2 hl
  obtain⟨lb,hlb⟩:=h.b_last hpos
  rw[hlb,hnl] at c1
  have hnd:=hok hl
  have hlen:nl≤1000000:=by rw[←hnl];exact hnd.last.1
  have hrd:∀ w1,At B w0 w1 p M F→Rd w1 (some ⟨lb,0,none⟩) nl M.last.xs:=fun w1 h1=>by
   have:=At.rd_last h1 (by omega)
   rw[hlb,hnl] at this
   exact this
  have H:=Lib.hid h
  have HL:=Lib.hid hl
  have HND:=Lib.hid hnd
  have HNL:=Lib.hid hnl
  have HLB:=Lib.hid (show (M.last.a.map fun b=>(⟨b,0,none⟩:Addr))=some ⟨lb,0,none⟩ by rw[hlb];rfl)
  have HRD:=Lib.hid hrd
  have HGN:=Lib.hid hgn
  have HCL:=Lib.hid hcl
  clear h hok hl hnd hrd hlb hnl hgn hcl hpos hc hgn2
  go_enter Tryz.func54,Tryz.ntmps54
  have e1:=Tryz.isNot ⟨lb,0,none⟩ nl M.last.c
  have hmm:=@run_makeMap Tryz.prog
  have HC:=Lib.hid (show M.sv.core=[] from List.length_eq_zero_iff.1 HCL.out)
  go_wp2
  have h1:=H.out.alloc (Obj.map #[] 0)
  revert h1
  generalize w.alloc (Obj.map #[] 0)=w1
  intro h1
  have H1:=Lib.hid h1
  clear h1 c1 H hmm
  go_loopg [22] 0 (fun g s22 wr=>s22=.int .i64 0∧Hid (g=0)∧Hid (At B w0 wr p M F))
  case atStart=>exact⟨rfl,rfl,H1.out⟩
  case round =>
   clear H1
   obtain⟨rfl,_,H2⟩:=hrel
   have e2:decide ((0:Int)<0)=false:=by simp
   have c1:=H2.out.c_last
   rw[HNL.out] at c1
   have HAL:=Lib.hid (H2.out.b_last (by rw[HNL.out];have:=List.length_pos_iff.2 HL.out;rw[HNL.out] at this;exact this))
   have c2:=H2.out.c_core
   rw[HCL.out] at c2
   have HRDL:=Lib.hid (HRD.out wr H2.out)
   have hla:(M.last.a.map fun b=>(⟨b,0,none⟩:Addr))=some ⟨lb,0,none⟩:=HLB.out
   rw[hla] at c1
   go_wp2_with fail
   refine (clone_any (some ⟨lb,0,none⟩) nl M.last.c M.last.xs wr HRDL.out hlen).mono ?_
   rintro e w3 ⟨fa,fc,rfl,k1⟩
   have h3:=H2.out.nest k1
   have H3:=Lib.hid (h3.frame (show _=star (sli 3 fa fc M.last.xs) F by ac_rfl))
   have c3:=h3.c_core
   rw[HCL.out] at c3
   clear k1 h3 c1 c2 hla HAL HRDL
   unfold slv
   rw[HNL.out]
   go_wp2
   clear c3
   go_loopg [9,47] 0 (fun g s9 s47 wr2=>s9=.slice (fa.map fun b=>⟨b,0,none⟩) nl fc∧s47=.int .i64 0∧Hid (g=0)∧Hid (At B w0 wr2 p M (star (sli 3 fa fc M.last.xs) F)))
   case atStart=>exact⟨rfl,rfl,rfl,H3.out⟩
   case round =>
    clear H3 H2
    obtain⟨rfl,rfl,_,H4⟩:=hrel
    have e3:decide ((0:Int)<0)=false:=by simp
    have c4:=H4.out.c_given
    rw[HGN.out] at c4
    have hst:Stays B w0 (star (sli 3 fa fc M.last.xs) F) (fa.map fun b=>⟨b,0,none⟩) nl M.last.xs:=by rw[←HNL.out];exact Stays.own _ _ _ _ _ (by rw[HNL.out];exact hlen)
    have HNEED:=Lib.hid (needed_any _ nl fc gn M.last.xs H4.out hst HND.out (by omega))
    clear hst
    go_wp2_with fail
    refine HNEED.out.mono ?_
    rintro e w5 ⟨a,c',ol,W,rfl,k2,k3,k4⟩
    have HK2:=Lib.hid k2
    have HK3:=Lib.hid (k3.frame (show _=star (sli 3 fa fc M.last.xs) (star (rwsHP 106 a c' W) F) by ac_rfl)).dropF
    have HK4:=Lib.hid k4
    clear k2 k3 k4 HNEED c4
    go_wp2
    go_ret2
    exact .inr ⟨HL.out,a,c',ol,W,rfl,HK2.out,HK3.out,HK4.out⟩
end
section
variable {B:Nat} {w0 w:World} {q:Nat} {S:SM} {F:HP}
def satTrace (S:SM):List Int×Int:=if S.last=[]∨S.told≠2 then ([],122) else encF (neededF S.steps S.last S.given.length)
structure TrOk (S:SM):Prop where
 core:S.core=[]
 nd:S.last≠[]→NdOk S S.last
 given:S.given.length≤1000000
 sum:S.last≠[]→8+4*(neededF S.steps S.last S.given.length).length+4*((neededF S.steps S.last S.given.length).map List.length).sum≤4194304
set_option maxRecDepth 100000 in
set_option maxHeartbeats 4000000 in
theorem satTrace_any (h:SatI B w0 w q S F) (hok:TrOk S) :
  Calls Tryz.prog 31 #[.pointer (some ⟨q,0,none⟩)] w fun e w' =>
   ((satTrace S).2=0→∃ a c,e=.returned (.tuple #[.slice (Option.map (fun b=>(⟨b,0,none⟩:Addr)) a) (satTrace S).1.length c,.int .i64 0])∧SatI B w0 w' q S (star (slb 5 a c (satTrace S).1) F)∧(satTrace S).1.length≤c∧c≤9223372036854775807) ∧
   ((satTrace S).2≠0→e=.returned (.tuple #[.slice none 0 0,.int .i64 (satTrace S).2])∧SatI B w0 w' q S F):=by
 obtain⟨p,M,h1,h2⟩:=h
 have hrf:=refut_any h1 (by rw[h2];exact hok.core) (by rw[h2];exact hok.nd) (by rw[h2];exact hok.given)
 rw[h2] at hrf
 have k0:=SatI.c h1
 have HRF:=Lib.hid hrf
 have HS:=Lib.hid h2
 have HOK:=Lib.hid hok
 obtain⟨R,hR⟩:∃ R,satTrace S=R:=⟨_,rfl⟩
 rw[hR]
 have HR:=Lib.hid hR
 clear h1 h2 hrf hok hR
 go_enter Tryz.func31,Tryz.ntmps31
 go_wp2_with fail
 refine HRF.out.mono ?_
 rintro e w1 (⟨hl,rfl,h3⟩ | ⟨hl,a,c,ol,W,rfl,hW,h3,hN⟩)
 ·have ht:R=([],122):=by rw[←HR.out];unfold satTrace;rw[if_pos (.inl hl)]
  have HT:=Lib.hid ht
  have HI:=Lib.hid (show SatI B w0 w1 q S F from⟨p,M,h3,HS.out⟩)
  clear hl ht h3 HRF
  go_wp2
  go_ret2
  exact⟨fun k=>(by rw[HT.out] at k;cases k),fun _=>⟨by rw[HT.out];rfl,HI.out⟩⟩
 ·have htd:=STold_any h3
  have hts:M.told=S.told:=congrArg SM.told HS.out
  rw[hts] at htd
  have k1:w1.cell? ⟨q,0,none⟩=some (.pointer (some ⟨p,0,none⟩)):=SatI.c (F:=star (rwsHP 106 a c W) F) (h3.frame (by ac_rfl))
  have HTD:=Lib.hid htd
  have H3:=Lib.hid h3
  have HL:=Lib.hid hl
  have HW:=Lib.hid hW
  have HN:=Lib.hid hN
  clear htd h3 hl hW hN HRF hts k0
  by_cases h2t:S.told=2
  ·have e1:decide (S.told=2)=true:=by simpa using h2t
   have ht:R=encF (neededF S.steps S.last S.given.length):=by rw[←HR.out];unfold satTrace;rw[if_neg (by intro k;rcases k with k | k;exact HL.out k;exact k h2t)]
   obtain⟨l,hl⟩:∃ l,neededF S.steps S.last S.given.length=l:=⟨_,rfl⟩
   have hsum:=HOK.out.sum HL.out
   rw[hl] at hsum ht
   have hn2:=HN.out
   rw[hl] at hn2
   have HT:=Lib.hid ht
   have hrd:=rws_rd (H3.out.st.conseq (show _=star (rwsHP 106 a c W) (star (stars (parts p M)) (star (pt q 67 [.pointer (some ⟨p,0,none⟩)]) F)) by ac_rfl)) (fun x hx=>by
    have hm:x.2.2∈l:=by rw[←hn2];exact List.mem_map.2 ⟨x,hx,rfl⟩
    obtain⟨i,hi,e⟩:=List.getElem_of_mem hm
    have:=sumN_succ l (j:=i) hi
    have h5:=sumN_le l (i+1)
    rw[gl_eq _ _ hi,e] at this
    omega) (by
     have h6:W.length=l.length:=by rw[←hn2,List.length_map]
     omega)
   rw[HW.out,hn2] at hrd
   have hll:l.length=ol:=by rw[←hn2,List.length_map,HW.out]
   have HE:=Lib.hid (encode_any _ ol c l w1 hrd (by rw[←hll];exact hsum))
   clear hrd hsum hn2 ht hl hll
   go_wp2_with fail
   refine HTD.out.mono ?_
   rintro e w2 ⟨rfl,rfl⟩
   go_wp2_with fail
   refine HE.out.mono ?_
   rintro e w3 ⟨hbel,hg,hb⟩
   rw[←HT.out] at hg hb
   by_cases h0:R.2=0
   ·obtain⟨b,cb,rfl,g1,g2,g3⟩:=hg h0
    have hlen:(encB l).length=R.1.length:=by
     have h7:=HT.out
     unfold encF at h7
     split at h7
     ·rw[h7]
     ·rw[h7] at h0;cases h0
    have hbe:encB l=R.1:=by
     have h7:=HT.out
     unfold encF at h7
     split at h7
     ·rw[h7]
     ·rw[h7] at h0;cases h0
    rw[hbe] at g1 g2
    have h8:=(H3.out.nest g1).frame (show _=star (rwsHP 106 a c W) (star (pt q 67 [.pointer (some ⟨p,0,none⟩)]) (star (slb 5 b cb R.1) F)) by rw[star_emp];ac_rfl)
    have HI:=Lib.hid (show SatI B w0 w3 q S (star (slb 5 b cb R.1) F) from⟨p,M,h8.dropF,HS.out⟩)
    have HG2:=Lib.hid g2
    have HG3:=Lib.hid g3
    have HLEN:=Lib.hid hlen
    have H0:=Lib.hid h0
    obtain⟨x,hx⟩:∃ x,(encB l).length=x:=⟨_,rfl⟩
    rw[hx]
    have HX:=Lib.hid hx
    clear hg hb hlen hbe g1 g2 g3 h8 h0 HE HTD hx hbel
    go_wp2
    go_ret2
    exact⟨fun _=>⟨b,cb,by rw[←HLEN.out,HX.out];rfl,HI.out,HG2.out,HG3.out⟩,fun k=>absurd H0.out k⟩
   ·have he:=hb h0
    subst he
    have hB:=hbel
    have h8:=(H3.out.grow hB).frame (show _=star (rwsHP 106 a c W) (star (pt q 67 [.pointer (some ⟨p,0,none⟩)]) F) by ac_rfl)
    have HI:=Lib.hid (show SatI B w0 w3 q S F from⟨p,M,h8.dropF,HS.out⟩)
    have H0:=Lib.hid h0
    clear hg hb h8 h0 HE HTD hB hbel
    go_wp2
    go_ret2
    exact⟨fun k=>absurd k H0.out,fun _=>⟨rfl,HI.out⟩⟩
  ·have e1:decide (S.told=2)=false:=by simpa using h2t
   have ht:R=([],122):=by rw[←HR.out];unfold satTrace;rw[if_pos (.inr h2t)]
   have HT:=Lib.hid ht
   have HI:=Lib.hid (show SatI B w0 w1 q S F from⟨p,M,H3.out.dropF,HS.out⟩)
   clear ht
   go_wp2_with fail
   refine HTD.out.mono ?_
   rintro e w2 ⟨rfl,rfl⟩
   go_wp2
   go_ret2
   exact⟨fun k=>(by rw[HT.out] at k;cases k),fun _=>⟨by rw[HT.out];rfl,HI.out⟩⟩
end
end Go.Proofs.YthbbmdnfkkffjaaGreat
namespace Go.Proofs.PlaitPure
def Rises (l:List Int):Prop:=l.Pairwise (·<·)
theorem Rises.ext:∀ {a b:List Int},Rises a→Rises b→(∀ x,x∈a↔x∈b)→a=b
 | [],[],_,_,_=>rfl
 | [],y :: b,_,_,h=>absurd ((h y).2 (by simp)) (by simp)
 | x :: a,[],_,_,h=>absurd ((h x).1 (by simp)) (by simp)
 | x :: a,y :: b,ha,hb,h=>by
  obtain⟨ha1,ha2⟩:=List.pairwise_cons.1 ha
  obtain⟨hb1,hb2⟩:=List.pairwise_cons.1 hb
  have hxy:x=y:=by
   rcases List.mem_cons.1 ((h x).1 (by simp)) with e | e
   ·exact e
   ·rcases List.mem_cons.1 ((h y).2 (by simp)) with e' | e'
    ·exact e'.symm
    ·have:=hb1 x e
     have:=ha1 y e'
     omega
  subst hxy
  congr 1
  refine Rises.ext ha2 hb2 fun z=>?_
  constructor
  ·intro hz
   rcases List.mem_cons.1 ((h z).1 (by simp[hz])) with e | e
   ·have:=ha1 z hz;omega
   ·exact e
  ·intro hz
   rcases List.mem_cons.1 ((h z).2 (by simp[hz])) with e | e
   ·have:=hb1 z hz;omega
   ·exact e
theorem ins_mem (x z:Int):∀ out:List Int,z∈ins x out↔z=x∨z∈out
 | []=>by simp[ins]
 | y :: r=>by
  have:=ins_mem x z r
  unfold ins
  split
  ·simp only[List.mem_cons,this]
   constructor
   ·rintro (h | h | h) <;> simp[h]
   ·rintro (h | h | h) <;> simp[h]
  ·split
   ·rename_i e;subst e;simp
   ·simp
theorem ins_rises (x:Int):∀ out:List Int,Rises out→Rises (ins x out)
 | [],_=>by simp[ins,Rises]
 | y :: r,h=>by
  obtain⟨h1,h2⟩:=List.pairwise_cons.1 h
  unfold ins
  split
  ·rename_i hlt
   refine List.pairwise_cons.2 ⟨fun z hz=>?_,ins_rises x r h2⟩
   rcases (ins_mem x z r).1 hz with rfl | hz
   ·exact hlt
   ·exact h1 z hz
  ·split
   ·exact h
   ·rename_i h3 h4
    refine List.pairwise_cons.2 ⟨fun z hz=>?_,h⟩
    rcases List.mem_cons.1 hz with rfl | hz
    ·omega
    ·have:=h1 z hz;omega
theorem setGo_some:∀ (xs out:List Int),(∀ x∈xs,okLit x=true)→Rises out→∃ s,setGo out xs=some s∧Rises s∧∀ z,z∈s↔z∈out∨z∈xs
 | [],out,_,h=>⟨out,rfl,h,fun z=>by simp⟩
 | x :: r,out,hx,h=>by
  obtain⟨s,h1,h2,h3⟩:=setGo_some r (ins x out) (fun y hy=>hx y (by simp[hy])) (ins_rises x out h)
  refine⟨s,by rw[setGo,if_pos (hx x (by simp))];exact h1,h2,fun z=>?_⟩
  rw[h3,ins_mem]
  simp only[List.mem_cons]
  constructor
  ·rintro ((h | h) | h) <;> simp[h]
  ·rintro (h | h | h) <;> simp[h]
theorem setGo_none:∀ (xs out:List Int),(∃ x∈xs,okLit x=false)→setGo out xs=none
 | [],out,h=>by obtain⟨x,hx,_⟩:=h;cases hx
 | y :: r,out,h=>by
  rw[setGo]
  split
  ·rename_i hy
   obtain⟨x,hx,hb⟩:=h
   rcases List.mem_cons.1 hx with rfl | hx
   ·rw[hy] at hb;cases hb
   ·exact setGo_none r _ ⟨x,hx,hb⟩
  ·rfl
theorem setF_some {xs:List Int} (h:∀ x∈xs,okLit x=true):∃ s,setF xs=some s∧Rises s∧∀ z,z∈s↔z∈xs:=by
 obtain⟨s,h1,h2,h3⟩:=setGo_some xs [] h List.Pairwise.nil
 exact⟨s,h1,h2,fun z=>by rw[h3];simp⟩
end Go.Proofs.PlaitPure
namespace Go.Proofs.YthbbmdnfkkffjaaGreat
open Go.Proofs.PlaitPure
def wantF (xs:List Int):List Int:=Lib.compact (sorted xs)
theorem compact_rises {zs:List Int} (hz:zs.Pairwise (·≤·)):∀ m,m≤zs.length→Rises (Lib.compactUpTo zs.toArray m)∧∀ z,z∈Lib.compactUpTo zs.toArray m↔z∈zs.take m
 | 0,_=>⟨List.Pairwise.nil,fun z=>by simp[Lib.compactUpTo]⟩
 | m+1,hm=>by
  obtain⟨h1,h2⟩:=compact_rises hz m (by omega)
  have hle:=List.pairwise_iff_getElem.1 hz
  have hget:∀ i (hi:i<zs.length),zs.toArray[i]! =zs[i]:=fun i hi=>by simp[hi]
  have ht:zs.take (m+1)=zs.take m++[zs[m]]:=List.take_succ_eq_append_getElem (by omega)
  rw[Lib.compactUpTo_succ,ht,hget m (by omega)]
  cases hk:Lib.keeps zs.toArray m with
  | true =>
   rw[if_pos rfl]
   refine⟨?_,fun z=>by rw[List.mem_append,List.mem_append,h2 z]⟩
   unfold Rises
   rw[List.pairwise_append]
   refine⟨h1,by simp,fun a ha b hb=>?_⟩
   rw[List.mem_singleton.1 hb]
   obtain⟨i,hi,rfl⟩:=List.getElem_of_mem ((h2 a).1 ha)
   have him:i<m:=by rw[List.length_take] at hi;omega
   rw[List.getElem_take]
   have hne:zs[m]≠zs[m-1]:=by
    intro e
    have:=Lib.keeps_neg (d:=zs.toArray) (m:=m) (by omega) (by rw[hget m (by omega),hget (m-1) (by omega)];exact e)
    rw[this] at hk;cases hk
   have e1:zs[m-1]≤zs[m]:=hle (m-1) m (by omega) (by omega) (by omega)
   have e2:zs[i]≤zs[m-1]:=by
    by_cases e:i=m-1
    ·subst e;exact Int.le_refl _
    ·exact hle i (m-1) (by omega) (by omega) (by omega)
   omega
  | false =>
   rw[if_neg (by simp),List.append_nil]
   refine⟨h1,fun z=>?_⟩
   rw[h2 z,List.mem_append,List.mem_singleton]
   constructor
   ·exact .inl
   ·rintro (h | rfl)
    ·exact h
    ·have h0:0<m:=by
      rcases Nat.eq_zero_or_pos m with e | e
      ·subst e;rw[Lib.keeps_lt_one _ 0 (by omega)] at hk;cases hk
      ·exact e
     have e:zs[m]=zs[m-1]:=by
      apply Classical.byContradiction
      intro hne
      have:=Lib.keeps_pos (d:=zs.toArray) (m:=m) (by rw[hget m (by omega),hget (m-1) (by omega)];exact hne)
      rw[this] at hk;cases hk
     rw[e]
     exact List.mem_iff_getElem.2 ⟨m-1,by rw[List.length_take];omega,by rw[List.getElem_take]⟩
theorem sorted_le (xs:List Int):(sorted xs).Pairwise (·≤·):=by
 have:=List.pairwise_mergeSort (le:=fun x y:Int=>decide (x≤y)) (fun a b c h1 h2=>by simp at *;omega) (fun a b=>by simp;omega) xs
 exact this.imp (by simp)
theorem sorted_mem (xs:List Int) (z:Int):z∈sorted xs↔z∈xs:=by unfold sorted;exact List.mem_mergeSort
theorem wantF_spec (xs:List Int):Rises (wantF xs)∧∀ z,z∈wantF xs↔z∈xs:=by
 obtain⟨h1,h2⟩:=compact_rises (sorted_le xs) (sorted xs).length (Nat.le_refl _)
 refine⟨h1,fun z=>?_⟩
 have:z∈wantF xs↔z∈(sorted xs).take (sorted xs).length:=h2 z
 rw[this,List.take_length,sorted_mem]
theorem sorted_rises {xs:List Int} (h:xs.Nodup):Rises (sorted xs):=by
 have h1:=sorted_le xs
 have h2:(sorted xs).Nodup:=(List.mergeSort_perm xs _).nodup_iff.2 h
 have h3:=List.pairwise_and_iff.2 ⟨h1,h2⟩
 exact h3.imp fun ⟨a,b⟩=>by omega
end Go.Proofs.YthbbmdnfkkffjaaGreat
namespace Go.Proofs.PlaitPure
def clauseF (G D:List (List Int)) (p:Int):Option (List Int) :=
 if p<0∨(G.length:Int)+D.length≤p then none else if p<G.length then setF (gl G p.toNat) else some (gl D (p-G.length).toNat)
def piv (c d:List Int):List Int:=c.filter fun x=>hasB d (-x)
def resA (c d:List Int) (x:Int):List Int:=(c.filter fun y=>y != x)++d.filter fun y=>y != -x
def resF (c d:List Int):Option (List Int):=match piv c d with
 | [x]=>setF (resA c d x)
 | _=>none
def foldR (G D:List (List Int)):List Int→List Int→Option (List Int)
 | c,[]=>some c
 | c,p :: r=>match clauseF G D p with
  | none=>none
  | some d=>match resF c d with
   | none=>none
   | some c'=>foldR G D c' r
def stepF (G D:List (List Int)):List Int→Option (List Int)
 | []=>none
 | p :: r=>match clauseF G D p with
  | none=>none
  | some c=>foldR G D c r
def derGo (G:List (List Int)):List (List Int)→List (List Int)→Option (List (List Int))
 | D,[]=>some D
 | D,s :: r=>match stepF G D s with
  | none=>none
  | some c=>derGo G (D++[c]) r
structure IsSet (c:List Int):Prop where
 rises:Rises c
 lits:∀ x∈c,okLit x=true
theorem IsSet.nodup {c:List Int} (h:IsSet c):c.Nodup:=by
 rw[List.nodup_iff_pairwise_ne]
 exact h.rises.imp fun {a b} hab=>by omega
theorem okLit_iff {x:Int}:okLit x=true↔x≠0∧-2147483647≤x∧x≤2147483647:=by simp[okLit]
theorem setF_all {xs s:List Int} (h:setF xs=some s):∀ x∈xs,okLit x=true:=by
 intro x hx
 cases e:okLit x with
 | true=>rfl
 | false =>
  have:=setGo_none xs [] ⟨x,hx,e⟩
  rw[show setF xs=setGo [] xs from rfl,this] at h
  cases h
theorem setF_spec {xs s:List Int} (h:setF xs=some s):IsSet s∧∀ z,z∈s↔z∈xs:=by
 obtain⟨s',h1,h2,h3⟩:=setF_some (setF_all h)
 rw[h] at h1
 cases h1
 exact⟨⟨h2,fun x hx=>setF_all h x ((h3 x).1 hx)⟩,h3⟩
theorem setF_len {xs s:List Int} (h:setF xs=some s):s.length≤xs.length:=by
 have key:∀ (xs out s:List Int),setGo out xs=some s→s.length≤out.length+xs.length:=by
  intro xs
  induction xs with
  | nil=>intro out s h;simp only[setGo,Option.some.injEq] at h;subst h;simp
  | cons x r ih =>
   intro out s h
   rw[setGo] at h
   split at h
   ·have h1:=ih _ s h
    have h2:=ins_length x out
    simp only[List.length_cons]
    omega
   ·cases h
 have:=key xs [] s h
 simpa using this
theorem okLit_neg {x:Int} (h:okLit x=true):okLit (-x)=true:=by rw[okLit_iff] at *;omega
theorem resA_ok {c d:List Int} {x:Int} (hc:IsSet c) (hd:IsSet d):∀ z∈resA c d x,okLit z=true:=by
 intro z hz
 unfold resA at hz
 rcases List.mem_append.1 hz with h | h
 ·exact hc.lits z (List.mem_filter.1 h).1
 ·exact hd.lits z (List.mem_filter.1 h).1
theorem resA_mem {c d:List Int} {x z:Int}:z∈resA c d x↔(z∈c∧z≠x)∨(z∈d∧z≠-x):=by unfold resA;simp[List.mem_filter]
theorem resF_one {c d:List Int} {x:Int} (hc:IsSet c) (hd:IsSet d) (h:piv c d=[x]):∃ e,resF c d=some e∧IsSet e∧∀ z,z∈e↔(z∈c∧z≠x)∨(z∈d∧z≠-x):=by
 obtain⟨e,h1,h2,h3⟩:=setF_some (resA_ok (x:=x) hc hd)
 refine⟨e,by unfold resF;rw[h];exact h1,(setF_spec h1).1,fun z=>?_⟩
 rw[h3,resA_mem]
theorem resF_set {c d e:List Int} (h:resF c d=some e):IsSet e:=by
 unfold resF at h
 split at h
 ·exact (setF_spec h).1
 ·cases h
theorem resF_not {c d:List Int} (h:(piv c d).length≠1):resF c d=none:=by
 unfold resF
 split
 ·rename_i e;rw[e] at h;exact absurd rfl h
 ·rfl
theorem clauseF_set {G D:List (List Int)} {p:Int} {c:List Int} (hD:∀ d∈D,IsSet d) (h:clauseF G D p=some c):IsSet c:=by
 unfold clauseF at h
 split at h
 ·cases h
 ·split at h
  ·exact (setF_spec h).1
  ·cases h
   rename_i h1 h2
   rw[gl_eq D _ (by omega)]
   exact hD _ (List.getElem_mem _)
theorem foldR_set {G D:List (List Int)}:∀ {r c e:List Int},IsSet c→foldR G D c r=some e→IsSet e
 | [],c,e,hc,h=>by cases h;exact hc
 | p :: r,c,e,hc,h=>by
  unfold foldR at h
  split at h
  ·cases h
  ·split at h
   ·cases h
   ·rename_i h2;exact foldR_set (resF_set h2) h
theorem stepF_set {G D:List (List Int)} {s c:List Int} (hD:∀ d∈D,IsSet d) (h:stepF G D s=some c):IsSet c:=by
 match s,h with
 | p :: r,h =>
  rw[stepF] at h
  split at h
  ·cases h
  ·rename_i h1;exact foldR_set (clauseF_set hD h1) h
def pivD (c d:List Int):List Int:=d.filter fun l=>hasB c (-l)
theorem one_of {α:Type} {l:List α} {x:α} (hn:l.Nodup) (hx:x∈l) (ho:∀ z∈l,z=x):l=[x]:=by
 match l,hn,hx,ho with
 | [a],_,_,ho=>rw[ho a (by simp)]
 | a :: b :: r,hn,_,ho =>
  have e1:=ho a (by simp)
  have e2:=ho b (by simp)
  simp[e1,e2] at hn
theorem piv_of_pivD {c d:List Int} (hc:c.Nodup) {l:Int} (h:pivD c d=[l]):piv c d=[-l]:=by
 have hl:l∈pivD c d:=by rw[h];simp
 obtain⟨h1,h2⟩:=List.mem_filter.1 hl
 refine one_of (hc.filter _) (List.mem_filter.2 ⟨hasB_iff.1 h2,hasB_iff.2 (by rw[Int.neg_neg];exact h1)⟩) fun z hz=>?_
 obtain⟨z1,z2⟩:=List.mem_filter.1 hz
 have:-z∈pivD c d:=List.mem_filter.2 ⟨hasB_iff.1 z2,hasB_iff.2 (by rw[Int.neg_neg];exact z1)⟩
 rw[h,List.mem_singleton] at this
 omega
theorem pivD_of_piv {c d:List Int} (hd:d.Nodup) {x:Int} (h:piv c d=[x]):pivD c d=[-x]:=by
 have hl:x∈piv c d:=by rw[h];simp
 obtain⟨h1,h2⟩:=List.mem_filter.1 hl
 refine one_of (hd.filter _) (List.mem_filter.2 ⟨hasB_iff.1 h2,hasB_iff.2 (by rw[Int.neg_neg];exact h1)⟩) fun z hz=>?_
 obtain⟨z1,z2⟩:=List.mem_filter.1 hz
 have:-z∈piv c d:=List.mem_filter.2 ⟨hasB_iff.1 z2,hasB_iff.2 (by rw[Int.neg_neg];exact z1)⟩
 rw[h,List.mem_singleton] at this
 omega
theorem resF_pivD {c d:List Int} (hc:IsSet c) (hd:IsSet d) {l:Int} (h:pivD c d=[l]):∃ e,resF c d=some e∧IsSet e∧∀ z,z∈e↔(z∈c∧z≠-l)∨(z∈d∧z≠l):=by
 obtain⟨e,h1,h2,h3⟩:=resF_one hc hd (piv_of_pivD hc.nodup h)
 refine⟨e,h1,h2,fun z=>?_⟩
 rw[h3,Int.neg_neg]
theorem resF_pivD_not {c d:List Int} (hd:IsSet d) (h:(pivD c d).length≠1):resF c d=none:=by
 refine resF_not fun h1=>h ?_
 match hp:piv c d,h1 with
 | [x],_=>rw[pivD_of_piv hd.nodup hp];rfl
def Lits (G:List (List Int)) (d:List Int):Prop:=∀ x∈d,x∈G.flatten
theorem nodup_len {d L:List Int} (hn:d.Nodup) (h:∀ x∈d,x∈L):d.length≤L.length:=by
 induction d generalizing L with
 | nil=>simp
 | cons x r ih =>
  rw[List.nodup_cons] at hn
  have hx:=h x (by simp)
  have:=ih (L:=L.erase x) hn.2 fun y hy=>(List.mem_erase_of_ne (fun (e:y=x)=>hn.1 (e▸hy))).2 (h y (by simp[hy]))
  rw[List.length_erase_of_mem hx] at this
  have:=List.length_pos_of_mem hx
  simp only[List.length_cons]
  omega
theorem clauseF_lits {G D:List (List Int)} {p:Int} {c:List Int} (hD:∀ d∈D,Lits G d) (h:clauseF G D p=some c):Lits G c:=by
 unfold clauseF at h
 split at h
 ·cases h
 ·split at h
  ·intro x hx
   rw[(setF_spec h).2] at hx
   rw[gl_eq G _ (by omega)] at hx
   exact List.mem_flatten.2 ⟨_,List.getElem_mem _,hx⟩
  ·cases h
   rename_i h1 h2
   rw[gl_eq D _ (by omega)]
   exact hD _ (List.getElem_mem _)
theorem resF_lits {G:List (List Int)} {c d e:List Int} (hc:Lits G c) (hd:Lits G d) (h:resF c d=some e):Lits G e:=by
 unfold resF at h
 split at h
 ·intro x hx
  rw[(setF_spec h).2] at hx
  unfold resA at hx
  rcases List.mem_append.1 hx with hx | hx
  ·exact hc x (List.mem_filter.1 hx).1
  ·exact hd x (List.mem_filter.1 hx).1
 ·cases h
theorem foldR_lits {G D:List (List Int)} (hD:∀ d∈D,Lits G d):∀ {r c e:List Int},Lits G c→foldR G D c r=some e→Lits G e
 | [],c,e,hc,h=>by cases h;exact hc
 | p :: r,c,e,hc,h=>by
  unfold foldR at h
  split at h
  ·cases h
  ·split at h
   ·cases h
   ·rename_i h1 _ _ h2;exact foldR_lits hD (resF_lits hc (clauseF_lits hD h1) h2) h
theorem stepF_lits {G D:List (List Int)} {s c:List Int} (hD:∀ d∈D,Lits G d) (h:stepF G D s=some c):Lits G c:=by
 match s,h with
 | p :: r,h =>
  rw[stepF] at h
  split at h
  ·cases h
  ·rename_i h1;exact foldR_lits hD (clauseF_lits hD h1) h
def GoodD (G D:List (List Int)):Prop:=∀ d∈D,IsSet d∧Lits G d
theorem GoodD.snoc {G D:List (List Int)} {s c:List Int} (h:GoodD G D) (hs:stepF G D s=some c):GoodD G (D++[c]):=by
 intro d hd
 rcases List.mem_append.1 hd with hd | hd
 ·exact h d hd
 ·rw[List.mem_singleton.1 hd]
  exact⟨stepF_set (fun d hd=>(h d hd).1) hs,stepF_lits (fun d hd=>(h d hd).2) hs⟩
theorem GoodD.len {G D:List (List Int)} (h:GoodD G D):∀ d∈D,d.length≤G.flatten.length:=fun d hd=>nodup_len (h d hd).1.nodup (h d hd).2
end Go.Proofs.PlaitPure
namespace Go.Proofs.PlaitSep
open Go Go.RowKit Go.Maps Go.Proofs.PlaitPure
open Go.WideElems (Fit rd rg pl rd_val elemAt)
structure Marks (D:DataW Unit) (s:List Int):Prop where
 has:∀ x:Int,Maps.has D (.int .i64 x)=decide (x∈s)
 val:∀ x:Int,D.atKey (.int .i64 x) (.lit (.int .i64 0))=.lit (.int .i64 (if x∈s then 1 else 0))
theorem Marks.congr {D:DataW Unit} {s t:List Int} (h:Marks D s) (e:∀ x,x∈s↔x∈t):Marks D t :=
 ⟨fun x=>by rw[h.has,decide_eq_decide];exact e x,fun x=>by rw[h.val];simp only[e x]⟩
def ms (P:Program) (k e:TypeId) (b n:Nat) (s:List Int):HP:=fun h =>
 ∃ es clock,one b (.map es clock) h∧Fit P k (plainElem (H:=Unit) P e) es clock∧es.size≤n∧Marks (.map ((es.toList.map (rg P k (plainElem (H:=Unit) P e))).foldr DataW.insert [])) s
theorem ms_congr {P:Program} {k e:TypeId} {b n:Nat} {s t:List Int} (h:∀ x,x∈s↔x∈t):ms P k e b n s=ms P k e b n t:=by
 funext hp
 apply propext
 constructor
 ·rintro⟨es,clock,h1,h2,h3,h4⟩;exact⟨es,clock,h1,h2,h3,h4.congr h⟩
 ·rintro⟨es,clock,h1,h2,h3,h4⟩;exact⟨es,clock,h1,h2,h3,h4.congr fun x=>(h x).symm⟩
section
variable {P:Program} {k e t:TypeId} {B b n:Nat} {w w' w0:World} {s:List Int} {F:HP}
theorem Sat.ms_own (h:Sat B w (star (ms P k e b n s) F)):∃ D,w.ownsMap P k (plainElem (H:=Unit) P e) b n D∧Marks D s∧B≤b:=by
 obtain⟨hp,⟨h1,h2,d,rfl,⟨es,clock,p,F',hs,ha⟩,q⟩,c⟩:=h
 have h3:Sat B w (star (PlaitSep.one b (.map es clock)) F):=⟨_,⟨h1,h2,d,rfl,p,q⟩,c⟩
 exact⟨_,⟨es,clock,(Sat.one h3).1,F',hs,rfl⟩,ha,(Sat.one h3).2⟩
theorem Sat.ms_put (h:Sat B w (star (ms P k e b n s) F)) (hg:w.grownBy w' (some b)) {m:Nat} {D:DataW Unit} {g:List Int} (ho:w'.ownsMap P k (plainElem (H:=Unit) P e) b m D) (ha:Marks D g):Sat B w' (star (ms P k e b m g) F):=by
 obtain⟨hp,⟨h1,h2,d,rfl,⟨es,clock,p,F',hs,ha'⟩,q⟩,c⟩:=h
 have h3:Sat B w (star (PlaitSep.one b (.map es clock)) F):=⟨_,⟨h1,h2,d,rfl,p,q⟩,c⟩
 obtain⟨es',clock',hb',F2,hs',rfl⟩:=ho
 have h4:=Sat.put h3 hb' fun i hi hlt=>hg.block i hlt (by simpa using hi)
 obtain⟨hp,⟨h1,h2,d,rfl,p,q⟩,c⟩:=h4
 exact⟨_,⟨h1,h2,d,rfl,⟨es',clock',p,F2,hs',ha⟩,q⟩,c⟩
theorem St.ms_new (h:St B w0 w F):St B w0 (w.alloc (.map #[] 0)) (star (ms P k e w.heap.size 0 []) F):=by
 refine⟨h.below.alloc h.base _,by have:=h.base;simp;omega,?_⟩
 have h1:=h.sat.new h.base (.map #[] 0)
 obtain⟨hp,⟨h1,h2,d,rfl,p,q⟩,c⟩:=h1
 obtain⟨es,clock,hb,F',hs,hD⟩:=World.ownsMap_made w P k (plainElem (H:=Unit) P e)
 rw[heap_alloc_new] at hb
 simp only[Option.some.injEq,Obj.map.injEq] at hb
 obtain⟨rfl,rfl⟩:=hb
 exact⟨_,⟨h1,h2,d,rfl,⟨_,_,p,F',hs,⟨fun x=>rfl,fun x=>rfl⟩⟩,q⟩,c⟩
theorem St.ms_look (h:St B w0 w (star (ms P k e b n s) F)) (K:Keyed P k) (ht:P.underlying t=some (.map k e)) (hk:P.underlying k=some (.int .i64)) (he:P.underlying e=some (.int .i64)) (hz:∀ w,(zeroValue e).run P w=.ok (.int .i64 0) w)
  (x:Int) (hx:(Lit.int .i64 x).wf=true):(Instr.lookup t (.map (some b)) (.int .i64 x) false).run P w=.ok (.int .i64 (if x∈s then 1 else 0)) w:=by
 obtain⟨D,ho,ha,_⟩:=h.sat.ms_own
 obtain⟨c,hrun,hat,_⟩:=ho.lookup_int K ht he (hz w) (keyOf_int_mk hk hx)
 rw[ha.val x] at hat
 simp only[DataW.lit.injEq,Lit.int.injEq,true_and] at hat
 rw[hrun,hat]
theorem wpList_ms_put {ops:Array Oper} {rest:List Oper} {o:Oper} {a:Act} {Q:Exit→Act→World→Prop} (hg:o.guard=none) (m x v:Operand) (hop:o.op=Op.mapUpdate t m x v)
  (h:St B w0 w (star (ms P k e b n s) F)) (K:Keyed P k) (ht:P.underlying t=some (.map k e)) (hk:P.underlying k=some (.int .i64)) (he:P.underlying e=some (.int .i64)) (hn:n<maxLen)
  (y:Int) (hm:a.eval m=.map (some b)) (hx:a.eval x=.int .i64 y) (hv:a.eval v=.int .i64 1) (hy:(Lit.int .i64 y).wf=true)
  (hK:∀ w',St B w0 w' (star (ms P k e b (n+1) (s++[y])) F)→w.grownBy w' (some b)→wpList P ops Q rest (a.put o.dst undef) w') :
  wpList P ops Q (o :: rest) a w:=by
 obtain⟨D,ho,ha,hB⟩:=h.sat.ms_own
 refine wpList_mapUpdate_own w hg m x v t hop k e K ht _ b n D hm ho hn _ _ (.int .i64 y) hx hv (keyOf_int_mk hk hy) (.lit (.int .i64 1)) [] (plainElem_int he (by decide)) ?_
 intro w' h1 h2
 refine hK w' ⟨h.below.trans ⟨h2.os,h2.tape,h2.output,h2.size,fun i hi=>h2.block i (Nat.lt_of_lt_of_le hi h.base) (by simp;omega)⟩,Nat.le_trans h.base h2.size,h.sat.ms_put h2 h1 ?_⟩ h2
 have hmap:Maps.IsMap D:=by obtain⟨es,clock,_,_,_,rfl⟩:=ho;exact⟨_,rfl⟩
 constructor
 ·intro u
  by_cases hu:u=y
  ·subst hu
   rw[Maps.has_put_same hmap (by trivial)]
   simp
  ·rw[Maps.has_put_other (by simpa using hu),ha.has u]
   simp[hu]
 ·intro u
  by_cases hu:u=y
  ·subst hu
   rw[Maps.atKey_put_same hmap (by trivial)]
   simp
  ·rw[Maps.atKey_put_other (by simpa using hu),ha.val u]
   simp[hu]
theorem wpList_ms_del {ops:Array Oper} {rest:List Oper} {o:Oper} {a:Act} {Q:Exit→Act→World→Prop} (hg:o.guard=none) (m x:Operand) (hop:o.op=Op.call { callee:=Callee.builtin Builtin.delete,args:=#[m,x],argTypes:=#[t,k] })
  (h:St B w0 w (star (ms P k e b n s) F)) (K:Keyed P k) (ht:P.underlying t=some (.map k e)) (hk:P.underlying k=some (.int .i64))
  (y:Int) (hm:a.eval m=.map (some b)) (hx:a.eval x=.int .i64 y) (hy:(Lit.int .i64 y).wf=true)
  (hK:∀ w',St B w0 w' (star (ms P k e b n (s.filter fun z=>z != y)) F)→w.grownBy w' (some b)→wpList P ops Q rest (a.put o.dst (.tuple #[])) w') :
  wpList P ops Q (o :: rest) a w:=by
 obtain⟨D,ho,ha,hB⟩:=h.sat.ms_own
 refine wpList_delete_own w hg m x t k hop e K ht _ b n D hm ho _ (.int .i64 y) hx (keyOf_int_mk hk hy) ?_
 intro w' h1 h2
 have hg2:w.grownBy w' (some b):=h2.grown
 refine hK w' ⟨h.below.trans ⟨hg2.os,hg2.tape,hg2.output,hg2.size,fun i hi=>hg2.block i (Nat.lt_of_lt_of_le hi h.base) (by simp;omega)⟩,Nat.le_trans h.base hg2.size,h.sat.ms_put hg2 h1 ?_⟩ hg2
 constructor
 ·intro u
  by_cases hu:u=y
  ·subst hu
   rw[Maps.has_del_same]
   simp
  ·rw[Maps.has_del_other (by simpa using hu),ha.has u]
   simp[hu]
 ·intro u
  by_cases hu:u=y
  ·subst hu
   rw[Maps.atKey_del_same]
   simp
  ·rw[Maps.atKey_del_other (by simpa using hu),ha.val u]
   simp[hu]
theorem St.ms_obj (h:St B w0 w (star (ms P k e b n s) F)):∃ es clock,w.heap[b]?=some (.map es clock):=by
 obtain⟨D,⟨es,clock,hb,_⟩,_⟩:=h.sat.ms_own
 exact⟨es,clock,hb⟩
theorem rd_grown {A:Option Addr} {m:Nat} {d:List Int} (hr:Rd w A m d) (h:St B w0 w (star (ms P k e b n s) F)) (hg:w.grownBy w' (some b)):Rd w' A m d:=by
 obtain⟨es,clock,hb⟩:=h.ms_obj
 refine⟨hr.len,hr.small,fun hp=>?_⟩
 obtain⟨bd,od,e,hc⟩:=hr.cells hp
 refine⟨bd,od,e,fun j hj=>?_⟩
 have hne:bd≠b:=fun e=>by
  have h0:=hc 0 hp
  subst e
  simp[World.cell?,hb] at h0
 rw[←hc j hj]
 unfold World.cell?
 rw[hg.block bd (World.block_lt_of_cell? w _ (hc 0 hp)) (by simpa using hne)]
end
end Go.Proofs.PlaitSep

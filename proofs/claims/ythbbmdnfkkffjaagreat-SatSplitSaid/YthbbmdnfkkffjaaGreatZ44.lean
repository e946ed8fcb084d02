/-
  Parts of the proof, joined by program: Der1, Der2, Der3, Der4.
-/
import Derived.Test.YthbbmdnfkkffjaaGreatZ43
import Derived.Test.YthbbmdnfkkffjaaGreatZ35
import Derived.Test.YthbbmdnfkkffjaaGreatZ41
import Derived.CallsIn
namespace Go.Proofs.YthbbmdnfkkffjaaGreat
open Go.RowKit Go.Shelf Go.Proofs.PlaitSep Go.Proofs.PlaitPure
theorem wantF_setF {xs:List Int} (h:∀ x∈xs,okLit x=true):setF xs=some (wantF xs):=by
 obtain⟨s,h1,h2,h3⟩:=setF_some h
 obtain⟨w1,w2⟩:=wantF_spec xs
 rw[h1,Rises.ext h2 w1 fun z=>by rw[h3,w2]]
def TsetPost (w:World) (xs:List Int) (e:Ending) (w':World):Prop :=
 Below w.heap.size w w'∧(∀ s,setF xs=some s→∃ A c,e=.returned (.tuple #[.slice A s.length c,.bool true])∧Rd w' A s.length s) ∧
  (setF xs=none→e=.returned (.tuple #[.slice none 0 0,.bool false]))
set_option maxHeartbeats 1000000 in
theorem tset_any (A:Option Addr) (n c:Nat) (xs:List Int) (w:World) (hr:Rd w A n xs) (hn:n≤1000000) :
  Calls Tryz.prog 117 #[.slice A n c] w (TsetPost w xs):=by
 have HR:=Lib.hid hr
 clear hr
 go_enter Tryz.func117,Tryz.ntmps117
 go_wp2
 go_loop [8] (fun v8=>∃ k:Nat,k≤n∧v8=.int .i64 k∧Hid (∀ i,i<k→okLit (gi xs i)=true)) (fun v8=>n-(intOf v8).toNat)
 case atStart=>exact⟨0,Nat.zero_le _,rfl,(fun i hi=>absurd hi (Nat.not_lt_zero i):∀ i,i<0→_)⟩
 case round =>
  obtain⟨k,hk,rfl,HOK⟩:=hrel
  by_cases hkn:k<n
  ·obtain⟨b,o,hA,hc⟩:=HR.out.cells (by omega)
   subst hA
   have d1:=hc k hkn
   obtain⟨x,hx⟩:∃ x,gi xs k=x:=⟨_,rfl⟩
   rw[hx] at d1
   have hmem:x∈xs:=by rw[←hx,gi_eq xs k (by have:=HR.out.len;omega)];exact List.getElem_mem _
   have k0:(0:Int)≤(k:Int):=by omega
   have k1:(k:Int)<(n:Int):=by omega
   have HX:=Lib.hid hx
   have hbad:okLit x=false→setF xs=none:=fun h=>setGo_none xs [] ⟨x,hmem,h⟩
   have HBAD:=Lib.hid hbad
   clear hc hx hmem hbad
   by_cases h0:x=0
   ·have e0:(x==0)=true:=by simpa using h0
    have hs:=HBAD.out (by rw[h0];decide)
    have HS:=Lib.hid hs
    clear hs h0
    go_wp2
    go_ret2
    exact⟨Below.refl _ _,fun s h=>(by rw[HS.out] at h;cases h),fun _=>rfl⟩
   ·have e0:(x==0)=false:=by simpa using h0
    by_cases h1:x< -2147483647
    ·have e1:decide (x< -2147483647)=true:=by simpa using h1
     have hs:=HBAD.out (by simp[okLit];omega)
     have HS:=Lib.hid hs
     clear hs h0
     go_wp2
     go_ret2
     exact⟨Below.refl _ _,fun s h=>(by rw[HS.out] at h;cases h),fun _=>rfl⟩
    ·have e1:decide (x< -2147483647)=false:=by simpa using h1
     by_cases h2:2147483647<x
     ·have e2:decide (2147483647<x)=true:=by simpa using h2
      have hs:=HBAD.out (by simp[okLit];omega)
      have HS:=Lib.hid hs
      clear hs h0
      go_wp2
      go_ret2
      exact⟨Below.refl _ _,fun s h=>(by rw[HS.out] at h;cases h),fun _=>rfl⟩
     ·have e2:decide (2147483647<x)=false:=by simpa using h2
      have hok:okLit x=true:=okLit_iff.2 ⟨h0,by omega,by omega⟩
      have HOKX:=Lib.hid hok
      clear hok h0
      go_wp2
      go_round
      case rel =>
       refine⟨k+1,by omega,by go_num,(fun i hi=>?_:∀ i,i<k+1→okLit (gi xs i)=true)⟩
       by_cases e:i=k
       ·rw[e,HX.out];exact HOKX.out
       ·exact HOK.out i (by omega)
      case measure=>simp[intOf];omega
  ·obtain rfl:k=n:=by omega
   have hall:∀ x∈xs,okLit x=true:=fun x hx=>by
    obtain⟨i,hi,rfl⟩:=List.getElem_of_mem hx
    have:=HOK.out i (by have:=HR.out.len;omega)
    rwa [gi_eq xs i hi] at this
   have hs:=wantF_setF hall
   have HS:=Lib.hid hs
   have hl:=HR.out.len
   have hwl:(wantF xs).length≤xs.length:=setF_len hs
   have HL:=Lib.hid hl
   have HWL:=Lib.hid hwl
   clear hall hs hl hwl HOK
   go_wp2_with fail
   refine (values_any A k c _).mono ?_
   rintro e w2 ⟨rfl,rfl⟩
   go_wp2_with fail
   refine (sorted_any A k c xs _ HR.out hn).mono ?_
   rintro e w3 ⟨sa,sc,rfl,h3⟩
   have H3:=Lib.hid (h3.conseq (star_emp _).symm)
   clear h3
   unfold slv
   go_wp2_with fail
   refine (Compact_any sa sc (sorted xs) H3.out (by rw[sorted_length,HL.out];omega)).mono ?_
   rintro e w4 ⟨rfl,h4⟩
   have hrd:=St.rd (xs:=wantF xs) h4 (by have:=HWL.out;have:=HL.out;omega)
   have HRD:=Lib.hid hrd
   have HB4:=Lib.hid h4.below
   clear hrd h4
   unfold slv
   go_wp2
   go_ret2
   refine⟨HB4.out,fun s h=>?_,fun h=>(by rw[HS.out] at h;cases h)⟩
   rw[HS.out] at h
   cases h
   exact⟨_,sc,rfl,HRD.out⟩
end Go.Proofs.YthbbmdnfkkffjaaGreat
namespace Go.Proofs.YthbbmdnfkkffjaaGreat
open Go.RowKit Go.Shelf Go.Proofs.PlaitSep Go.Proofs.PlaitPure
theorem Tryz.keyedInt:Go.Maps.Keyed Tryz.prog 3:=Go.Maps.int_keyed Tryz.underlying3
theorem Tryz.sortsIn (m:Nat):AnyZI.SortsIn Tryz.prog Tryz.sortedA_ren Fence.wide m :=
 ⟨fun blk off cap ss W hH hblk hsz=>callsIn_wide.2 (Tryz.slices_Sort_int blk off cap ss W hH hblk hsz),fun p cap W=>callsIn_wide.2 (Tryz.slices_Sort_int_none p cap W)⟩
theorem keys_any (b:Option Nat) (w:World) :
  Calls Tryz.prog 113 #[.map b] w fun e w'=>e=.returned (.func (.func 120) #[] #[.pointer (some ⟨w.heap.size,0,none⟩)])∧w'=w.alloc (.cells #[.map b] 102) :=
 (callsIn_wide (n:=5)).1 (AnyZI.keys_in Tryz.keysA Fence.wide 5 trivial rfl b w)
theorem sortedKeys_any {B:Nat} {w0 w:World} {F:HP} {b n:Nat} {s e:List Int} (h:St B w0 w (star (ms Tryz.prog 3 3 b n s) F)) (he:IsSet e) (hm:∀ z,z∈e↔z∈s) (hl:e.length≤1000000000000) :
  Calls Tryz.prog 112 #[.func (.func 120) #[] #[.pointer (some ⟨w.heap.size,0,none⟩)]] (w.alloc (.cells #[.map (some b)] 102)) fun r w'=>∃ A c,r=.returned (.slice A e.length c)∧Below w.heap.size w w'∧Rd w' A e.length e:=by
 obtain⟨D,hown,hmk,_⟩:=h.sat.ms_own
 have hperm:e.Perm (intKeys D):=by
  have hc:CollectedI D (fun _=>false) e:=⟨he.nodup,fun x=>by rw[hmk.has x];simp[hm]⟩
  exact hc.perm hown Tryz.keyedInt Tryz.underlying3 (fun _=>rfl)
 have hsize:Maps.size D=e.length:=by
  obtain⟨es,clock,_,_,_,rfl⟩:=hown
  have:=hperm.length_eq
  rw[this]
  simp[intKeys,Maps.size_eq]
 have hbl:=hown.lt
 have hseq:SeqGives Fence.wide 2 Tryz.prog 120 #[.pointer (some ⟨w.heap.size,0,none⟩)] encZ (fun ss=>ss.Perm (intKeys D)) (Maps.size D) (w.alloc (.cells #[.map (some b)] 102)) :=
  AnyZI.keys_gives (ρ:=Tryz.keysA_ren) { Tryz.keysA with } Fence.wide _ trivial rfl (by omega) w.heap.size b n D _ (by simp) (by simp) (by
   obtain⟨es,clock,hb,Ft,hs,hD⟩:=hown
   exact⟨es,clock,(Below.heap_alloc _ _ b hbl).trans hb,Ft,hs,hD⟩)
 have cS:=AnyZI.sorted_in Tryz.sortedA Fence.wide 5 trivial trivial trivial trivial rfl (by omega) (Tryz.sortsIn _) (enters_of Tryz.func119 (by kernel_rfl) rfl) 120 #[.pointer (some ⟨w.heap.size,0,none⟩)] trivial (enters_of Tryz.func120 (by kernel_rfl) rfl) _ _ (by rw[hsize];unfold maxLen;omega) (by rw[hsize];omega) _ hseq
 change CallsIn _ _ Tryz.prog 112 _ _ _ at cS
 refine ((callsIn_wide (n:=5)).1 cS).mono ?_
 rintro r w' ⟨v,ss,rfl,hS,hrow,_,hb⟩
 have hpe:ss.Perm e:=hS.trans hperm.symm
 have hsorted:ss.mergeSort (fun x y=>decide (x≤y))=e:=by
  have h1:Rises (sorted ss):=sorted_rises (hpe.nodup_iff.2 he.nodup)
  exact Rises.ext h1 he.rises fun z=>(sorted_mem ss z).trans hpe.mem_iff
 rw[hsorted,hpe.length_eq] at hrow
 have hbb:Below w.heap.size w w':=((Below.refl _ w).alloc (Nat.le_refl _) _).trans (hb.mono (by simp))
 obtain⟨a,c,rfl,hst⟩:=St.ofRow hb (Nat.le_refl _) hrow
 refine⟨a.map fun b=>⟨b,0,none⟩,c,rfl,hbb,?_⟩
 have h2:St _ _ w' (star (sli 3 a c e) emp):=hst.conseq (star_emp _).symm
 exact St.rd h2 (by omega)
end Go.Proofs.YthbbmdnfkkffjaaGreat
namespace Go.Proofs.YthbbmdnfkkffjaaGreat
open Go.RowKit Go.Proofs.PlaitSep Go.Proofs.PlaitPure
def foundN (s d:List Int) (j:Nat):Nat:=(pivD s (d.take j)).length
def lastX (s d:List Int) (j:Nat):Int:=match (pivD s (d.take j)).getLast? with
 | none=>0
 | some l=>-l
theorem pivD_snoc (s d:List Int) (x:Int):pivD s (d++[x])=if hasB s (-x) then pivD s d++[x] else pivD s d:=by
 unfold pivD
 rw[List.filter_append]
 cases h:hasB s (-x) <;> simp[h]
theorem foundN_succ {s d:List Int} {j:Nat} (h:j<d.length):foundN s d (j+1)=if hasB s (-gi d j) then foundN s d j+1 else foundN s d j:=by
 unfold foundN
 rw[take_gi d j h,pivD_snoc]
 split <;> simp
theorem lastX_succ {s d:List Int} {j:Nat} (h:j<d.length):lastX s d (j+1)=if hasB s (-gi d j) then -gi d j else lastX s d j:=by
 unfold lastX
 rw[take_gi d j h,pivD_snoc]
 by_cases hb:hasB s (-gi d j)=true
 ·rw[if_pos hb,if_pos hb,List.getLast?_concat]
 ·rw[if_neg hb,if_neg hb]
theorem wf_lit {x:Int} (h:okLit x=true):(Lit.int .i64 x).wf=true:=by
 rw[okLit_iff] at h
 simp[Lit.wf,IntKind.min,IntKind.max,IntKind.bits,IntKind.signed]
 omega
theorem ms_more {B:Nat} {w0 w:World} {F:HP} {b n n':Nat} {s:List Int} (h:St B w0 w (star (ms Tryz.prog 3 3 b n s) F)) (hn:n≤n'):St B w0 w (star (ms Tryz.prog 3 3 b n' s) F):=by
 refine⟨h.below,h.base,?_⟩
 obtain⟨hp,⟨h1,h2,d,rfl,⟨es,clock,p,F',hs,ha⟩,q⟩,c⟩:=h.sat
 exact⟨_,⟨h1,h2,d,rfl,⟨es,clock,p,F',by omega,ha⟩,q⟩,c⟩
theorem grown_trans {w w1 w2:World} {r:Option Nat} (h:w.grownBy w1 r) (k:w1.grownBy w2 r):w.grownBy w2 r :=
 ⟨k.os.trans h.os,k.tape.trans h.tape,k.output.trans h.output,Nat.le_trans h.size k.size,fun i hi hne=>(k.block i (Nat.lt_of_lt_of_le hi h.size) hne).trans (h.block i hi hne)⟩
def ResPost (B:Nat) (w0 w:World) (b n:Nat) (s d:List Int) (F:HP) (e:Ending) (w':World):Prop :=
 (∀ l,pivD s d=[l]→e=.returned (.bool true)∧w.grownBy w' (some b)∧∃ t,St B w0 w' (star (ms Tryz.prog 3 3 b (n+d.length) t) F)∧∀ z,z∈t↔(z∈s∧z≠-l)∨(z∈d∧z≠l)) ∧
 ((pivD s d).length≠1→e=.returned (.bool false)∧St B w0 w' F)
set_option maxRecDepth 100000 in
set_option maxHeartbeats 2000000 in
theorem tresolve_any {B:Nat} {w0 w:World} {F:HP} {b n:Nat} {s:List Int} (h:St B w0 w (star (ms Tryz.prog 3 3 b n s) F)) (A:Option Addr) (m c:Nat) (d:List Int)
  (hrd:Rd w A m d) (hok:∀ x∈d,okLit x=true) (hn:n+m≤1000000000000) (hm:m≤1000000) :
  Calls Tryz.prog 111 #[.map (some b),.slice A m c] w (ResPost B w0 w b n s d F):=by
 have H:=Lib.hid h
 have HOK:=Lib.hid hok
 have hlen:=hrd.len
 have HLEN:=Lib.hid hlen
 have HR:=Lib.hid hrd
 clear h hrd hok hlen
 go_enter Tryz.func111,Tryz.ntmps111
 go_wp2
 go_loop [5,6,13] (fun v5 v6 v13=>∃ j:Nat,j≤m∧v13=.int .i64 j∧(∃ q:Nat,q≤j∧v5=.int .i64 q∧Hid (foundN s d j=q))∧∃ x:Int,v6=.int .i64 x∧Hid (lastX s d j=x)) (fun _ _ v13=>m-(intOf v13).toNat)
 case atStart=>exact⟨0,Nat.zero_le _,rfl,⟨0,Nat.le_refl _,rfl,(rfl:foundN s d 0=0)⟩,0,rfl,(rfl:lastX s d 0=0)⟩
 case round =>
  obtain⟨j,hj,rfl,⟨q,hq,rfl,HQ⟩,x,rfl,HX⟩:=hrel
  by_cases hjm:j<m
  ·obtain⟨bd,od,hA,hc⟩:=HR.out.cells (by omega)
   subst hA
   have d1:=hc j hjm
   obtain⟨l,hl⟩:∃ l,gi d j=l:=⟨_,rfl⟩
   rw[hl] at d1
   have hlok:okLit l=true:=by rw[←hl,gi_eq d j (by rw[HLEN.out];exact hjm)];exact HOK.out _ (List.getElem_mem _)
   have hwf:=wf_lit (okLit_neg hlok)
   obtain⟨_,l1,l2⟩:=okLit_iff.1 hlok
   have hlook:=St.ms_look H.out Tryz.keyedInt Tryz.underlying102 Tryz.underlying3 Tryz.underlying3 Tryz.zeroInt (-l) hwf
   have hfs:=foundN_succ (s:=s) (d:=d) (j:=j) (by rw[HLEN.out];exact hjm)
   have hls:=lastX_succ (s:=s) (d:=d) (j:=j) (by rw[HLEN.out];exact hjm)
   rw[hl] at hfs hls
   have hwr:IntKind.i64.wrap (-l)=-l:=IntWalk.i64_in _ (by omega)
   have j0:(0:Int)≤(j:Int):=by omega
   have j1:(j:Int)<(m:Int):=by omega
   have HFS:=Lib.hid hfs
   have HLS:=Lib.hid hls
   cases hb:hasB s (-l) with
   | true =>
    rw[if_pos (hasB_iff.1 hb)] at hlook
    have HB:=Lib.hid hb
    clear hc hl hlok hwf hfs hls hb
    go_wp2
    go_round
    case rel=>exact⟨j+1,by omega,by go_num,⟨q+1,by omega,by go_num,(by rw[HFS.out,HB.out,HQ.out];rfl:foundN s d (j+1)=q+1)⟩,-l,rfl,(by rw[HLS.out,HB.out];rfl:lastX s d (j+1)=-l)⟩
    case measure=>simp[intOf];omega
   | false =>
    rw[if_neg (fun h=>by rw[hasB_iff.2 h] at hb;cases hb)] at hlook
    have HB:=Lib.hid hb
    clear hc hl hlok hwf hfs hls hb
    go_wp2
    go_round
    case rel=>exact⟨j+1,by omega,by go_num,⟨q,by omega,rfl,(by rw[HFS.out,HB.out];exact HQ.out:foundN s d (j+1)=q)⟩,x,rfl,(by rw[HLS.out,HB.out];exact HX.out:lastX s d (j+1)=x)⟩
    case measure=>simp[intOf];omega
  ·obtain rfl:j=m:=by omega
   have htk:d.take j=d:=List.take_of_length_le (by rw[HLEN.out];exact Nat.le_refl _)
   have hpl:(pivD s d).length=q:=by have:=HQ.out;unfold foundN at this;rwa [htk] at this
   have HPL:=Lib.hid hpl
   by_cases hq1:q=1
   ·subst hq1
    have hone:∃ l,pivD s d=[l]∧x=-l:=by
     match hp:pivD s d,hpl with
     | [l],_ =>
      refine⟨l,rfl,?_⟩
      have:=HX.out
      unfold lastX at this
      rw[htk,hp] at this
      exact this.symm
    obtain⟨l,hp,hxl⟩:=hone
    subst hxl
    have hlm:l∈d:=(List.mem_filter.1 (show l∈pivD s d by rw[hp];simp)).1
    have hlok:=HOK.out l hlm
    have hwf:=wf_lit (okLit_neg hlok)
    obtain⟨_,l1,l2⟩:=okLit_iff.1 hlok
    have HP:=Lib.hid hp
    have hwr:IntKind.i64.wrap (- -l)=l:=by rw[Int.neg_neg];exact IntWalk.i64_in _ (by omega)
    clear htk hpl hp hlm hlok
    go_wp2_with (refine wpList_ms_del rfl _ _ rfl H.out Tryz.keyedInt Tryz.underlying102 Tryz.underlying3 (-l) rfl rfl hwf ?_;intro w2 h2 hg2;have H2:=Lib.hid h2;have HG2:=Lib.hid hg2;clear h2 hg2)
    go_loopw [33] (fun v33 wr=>∃ i:Nat,i≤j∧v33=.int .i64 i∧∃ t:List Int,Hid (w.grownBy wr (some b))∧Hid (St B w0 wr (star (ms Tryz.prog 3 3 b (n+i) t) F))∧Hid (∀ z,z∈t↔(z∈s∧z≠-l)∨(z∈d.take i∧z≠l))) (fun v33 _=>j-(intOf v33).toNat)
    case atStart=>exact⟨0,Nat.zero_le _,rfl,s.filter (fun z=>z != -l),HG2.out,H2.out,(fun z=>by simp[List.mem_filter]:∀ z,z∈s.filter (fun z=>z != -l)↔(z∈s∧z≠-l)∨(z∈d.take 0∧z≠l))⟩
    case round =>
     obtain⟨i,hi,rfl,t,HG,HST,HT⟩:=hrel
     by_cases hij:i<j
     ·obtain⟨bd,od,hA,hc⟩:=(rd_grown HR.out H.out HG.out).cells (by omega)
      subst hA
      have d1:=hc i hij
      obtain⟨y,hy⟩:∃ y,gi d i=y:=⟨_,rfl⟩
      rw[hy] at d1
      have hyok:okLit y=true:=by rw[←hy,gi_eq d i (by rw[HLEN.out];exact hij)];exact HOK.out _ (List.getElem_mem _)
      have hwfy:=wf_lit hyok
      have htk2:d.take (i+1)=d.take i++[y]:=by rw[take_gi d i (by rw[HLEN.out];exact hij),hy]
      have HTK:=Lib.hid htk2
      have i0:(0:Int)≤(i:Int):=by omega
      have i1:(i:Int)<(j:Int):=by omega
      clear hc hy hyok htk2
      by_cases hyl:y=l
      ·have e0:(y != l)=false:=by simpa using hyl
       go_wp2
       go_roundw
       case rel =>
        refine⟨i+1,by omega,by go_num,t,HG.out,(?_:St B w0 wr (star (ms Tryz.prog 3 3 b (n+(i+1)) t) F)),(fun z=>?_:∀ z,z∈t↔(z∈s∧z≠-l)∨(z∈d.take (i+1)∧z≠l))⟩
        ·exact ms_more HST.out (by omega)
        ·rw[HT.out,HTK.out,List.mem_append,List.mem_singleton]
         constructor
         ·rintro (h | ⟨h1,h2⟩)
          ·exact .inl h
          ·exact .inr ⟨.inl h1,h2⟩
         ·rintro (h | ⟨h1 | h1,h2⟩)
          ·exact .inl h
          ·exact .inr ⟨h1,h2⟩
          ·exact absurd (h1.trans hyl) h2
       case measure=>simp[intOf];omega
      ·have e0:(y != l)=true:=by simpa using hyl
       have HYL:=Lib.hid hyl
       clear hyl
       go_wp2_with (refine wpList_ms_put rfl _ _ _ rfl HST.out Tryz.keyedInt Tryz.underlying102 Tryz.underlying3 Tryz.underlying3 (by unfold maxLen;omega) y rfl rfl rfl hwfy ?_;intro w3 h3 hg3;have H3:=Lib.hid h3;have HG3:=Lib.hid (grown_trans HG.out hg3);clear h3 hg3)
       go_roundw
       case rel =>
        refine⟨i+1,by omega,by go_num,t++[y],HG3.out,H3.out,(fun z=>?_:∀ z,z∈t++[y]↔(z∈s∧z≠-l)∨(z∈d.take (i+1)∧z≠l))⟩
        rw[HTK.out,List.mem_append,List.mem_append,List.mem_singleton,HT.out]
        constructor
        ·rintro ((h | ⟨h1,h2⟩) | h)
         ·exact .inl h
         ·exact .inr ⟨.inl h1,h2⟩
         ·exact .inr ⟨.inr h,by rw[h];exact HYL.out⟩
        ·rintro (h | ⟨h1 | h1,h2⟩)
         ·exact .inl (.inl h)
         ·exact .inl (.inr ⟨h1,h2⟩)
         ·exact .inr h1
       case measure=>simp[intOf];omega
     ·obtain rfl:i=j:=by omega
      have htk:d.take i=d:=List.take_of_length_le (by rw[HLEN.out];exact Nat.le_refl _)
      have HTK:=Lib.hid htk
      clear htk
      go_wp2
      go_ret
      refine⟨fun l' hl'=>⟨rfl,HG.out,t,?_,?_⟩,fun h=>absurd (by rw[HP.out];rfl) h⟩
      ·rw[HLEN.out];exact HST.out
      ·rw[HP.out] at hl'
       cases hl'
       intro z
       rw[HT.out,HTK.out]
   ·have e0:((q:Int) != 1)=true:=by simp;omega
    clear htk hpl
    go_wp2
    go_ret
    exact⟨fun l hl=>(by have:=HPL.out;rw[hl] at this;exact absurd this.symm hq1),fun _=>⟨rfl,H.out.dropl⟩⟩
end Go.Proofs.YthbbmdnfkkffjaaGreat
namespace Go.Proofs.YthbbmdnfkkffjaaGreat
open Go.RowKit Go.Proofs.PlaitSep Go.Proofs.PlaitPure
structure DerAt (V:World) (p:Nat) (AG:Option Addr) (nG cG:Nat) (AD:Option Addr) (nD cD:Nat) (G D:List (List Int)):Prop where
 c0:V.cell? ⟨p,0,none⟩=some (.slice AG nG cG)
 c1:V.cell? ⟨p,1,none⟩=some (.slice AD nD cD)
 rg:Rd2 V AG nG G
 rd:Rd2 V AD nD D
theorem DerAt.grow {V V':World} {p:Nat} {AG:Option Addr} {nG cG:Nat} {AD:Option Addr} {nD cD:Nat} {G D:List (List Int)} (h:DerAt V p AG nG cG AD nD cD G D) (hb:Below V.heap.size V V'):DerAt V' p AG nG cG AD nD cD G D :=
 ⟨(hb.cell (World.block_lt_of_cell? V _ h.c0)).trans h.c0,(hb.cell (World.block_lt_of_cell? V _ h.c1)).trans h.c1,h.rg.grow hb,h.rd.grow hb⟩
def ClPost (w:World) (r:Option (List Int)) (e:Ending) (w':World):Prop :=
 Below w.heap.size w w'∧(∀ c,r=some c→∃ A k,e=.returned (.tuple #[.slice A c.length k,.bool true])∧Rd w' A c.length c) ∧
  (r=none→e=.returned (.tuple #[.slice none 0 0,.bool false]))
theorem clPost_none {w w':World} {r:Option (List Int)} (hb:Below w.heap.size w w') (h:r=none):ClPost w r (.returned (.tuple #[.slice none 0 0,.bool false])) w' :=
 ⟨hb,fun c hc=>(by rw[h] at hc;cases hc),fun _=>rfl⟩
theorem drewN_below (w:World) (n:Nat):Below w.heap.size w (w.drewN n):=⟨rfl,rfl,rfl,Nat.le_refl _,fun _ _=>rfl⟩
set_option maxRecDepth 100000 in
set_option maxHeartbeats 2000000 in
theorem tclause_any (p:Nat) (AG:Option Addr) (nG cG:Nat) (AD:Option Addr) (nD cD:Nat) (G D:List (List Int)) (q:Int) (w:World) (h:DerAt w p AG nG cG AD nD cD G D) (hG:nG≤1000000) (hD:nD≤1000000) (hGs:∀ g∈G,g.length≤1000000) :
  Calls Tryz.prog 110 #[.pointer (some ⟨p,0,none⟩),.int .i64 q] w (ClPost w (clauseF G D q)):=by
 have c0:=h.c0
 have c1:=h.c1
 have H:=Lib.hid h
 have HGS:=Lib.hid hGs
 have hlG:=h.rg.len
 have hlD:=h.rd.len
 have HLG:=Lib.hid hlG
 have HLD:=Lib.hid hlD
 clear h hGs hlG hlD
 by_cases h0:q<0
 ·have e0:decide (q<0)=true:=by simpa using h0
  have hn:clauseF G D q=none:=by unfold clauseF;rw[if_pos (.inl h0)]
  have HN:=Lib.hid hn
  clear hn
  go_enter Tryz.func110,Tryz.ntmps110
  go_wp2
  go_quiet (fail)
  go_wp2
  go_ret2
  exact clPost_none (drewN_below _ _) HN.out
 ·have e0:decide (q<0)=false:=by simpa using h0
  by_cases h1:(nG:Int)+nD≤q
  ·have e1:decide ((nG:Int)+(nD:Int)≤q)=true:=by simpa using h1
   have hn:clauseF G D q=none:=by unfold clauseF;rw[if_pos (.inr (by rw[HLG.out,HLD.out];exact h1))]
   have HN:=Lib.hid hn
   clear hn
   go_enter Tryz.func110,Tryz.ntmps110
   go_wp2
   go_quiet (fail)
   go_wp2
   go_ret2
   exact clPost_none (drewN_below _ _) HN.out
  ·have e1:decide ((nG:Int)+(nD:Int)≤q)=false:=by simpa using h1
   obtain⟨Q,rfl⟩:∃ Q:Nat,q=Q:=⟨q.toNat,by omega⟩
   by_cases h2:Q<nG
   ·have e2:decide ((Q:Int)<(nG:Int))=true:=by simp;omega
    have hc:clauseF G D Q=setF (gl G Q):=by
     unfold clauseF
     rw[if_neg (by rw[HLG.out,HLD.out];omega),if_pos (by rw[HLG.out];omega),Int.toNat_natCast]
    obtain⟨bg,og,hA,hcell⟩:=H.out.rg.cells (by omega)
    subst hA
    obtain⟨Aj,cj,d1,hrj⟩:=hcell Q h2
    have hsm:(gl G Q).length≤1000000:=HGS.out _ (by rw[gl_eq G Q (by rw[HLG.out];exact h2)];exact List.getElem_mem _)
    obtain⟨xs,hxs⟩:∃ xs,gl G Q=xs:=⟨_,rfl⟩
    obtain⟨ln,hln⟩:∃ ln,xs.length=ln:=⟨_,rfl⟩
    rw[hxs,hln] at d1 hrj hsm
    rw[hxs] at hc
    have HC:=Lib.hid hc
    have HRJ:=Lib.hid hrj
    have q0:(0:Int)≤(Q:Int):=by omega
    have q1:(Q:Int)<(nG:Int):=by omega
    clear hcell hxs hln hc hrj
    go_enter Tryz.func110,Tryz.ntmps110
    go_wp2
    go_quiet (fail)
    go_wp2_with fail
    refine (tset_any Aj ln cj xs (w.drewN nq) (HRJ.out.drawn ⟨nq,rfl⟩) hsm).mono ?_
    rintro e w2 ⟨hb,hgood,hbad⟩
    have HB:=Lib.hid ((drewN_below w nq).trans hb)
    have HGOOD:=Lib.hid hgood
    have HBAD:=Lib.hid hbad
    clear hb hgood hbad
    cases hs:setF xs with
    | none =>
     have he:=HBAD.out hs
     subst he
     have HS:=Lib.hid hs
     clear hs
     go_wp2
     go_ret2
     exact clPost_none HB.out (HC.out.trans HS.out)
    | some s =>
     obtain⟨A,k,rfl,hrd⟩:=HGOOD.out s hs
     have HRD:=Lib.hid hrd
     have HS:=Lib.hid hs
     clear hs hrd
     go_wp2
     go_ret2
     refine⟨HB.out,fun c hc=>?_,fun hc=>(by rw[HC.out,HS.out] at hc;cases hc)⟩
     rw[HC.out,HS.out] at hc
     cases hc
     exact⟨A,k,rfl,HRD.out⟩
   ·have e2:decide ((Q:Int)<(nG:Int))=false:=by simp;omega
    have hc:clauseF G D Q=some (gl D (Q-nG)):=by
     unfold clauseF
     rw[if_neg (by rw[HLG.out,HLD.out];omega),if_neg (by rw[HLG.out];omega),HLG.out]
     congr 2
     omega
    obtain⟨t,ht⟩:∃ t:Nat,(Q:Int)-(nG:Int)=t:=⟨Q-nG,by omega⟩
    have htn:t<nD:=by omega
    obtain⟨bg,og,hA,hcell⟩:=H.out.rd.cells (by omega)
    subst hA
    obtain⟨Aj,cj,d1,hrj⟩:=hcell t htn
    rw[show Q-nG=t by omega] at hc
    obtain⟨xs,hxs⟩:∃ xs,gl D t=xs:=⟨_,rfl⟩
    obtain⟨ln,hln⟩:∃ ln,xs.length=ln:=⟨_,rfl⟩
    rw[hxs,hln] at d1 hrj
    rw[hxs] at hc
    have HC:=Lib.hid hc
    have HLN:=Lib.hid hln
    have HRJ:=Lib.hid hrj
    have q0:(0:Int)≤(t:Int):=by omega
    have q1:(t:Int)<(nD:Int):=by omega
    have hwr:IntKind.i64.wrap ((Q:Int)-(nG:Int))=(t:Int):=by rw[ht];exact IntWalk.i64_in _ (by omega)
    clear hcell hxs hln hc hrj
    go_enter Tryz.func110,Tryz.ntmps110
    go_wp2
    go_quiet (fail)
    revert nq
    intro nqa
    go_wp2
    go_quiet (fail)
    go_wp2
    go_ret2
    refine⟨(drewN_below w nqa).trans (drewN_below (w.drewN nqa) nq),fun c hc=>?_,fun hc=>(by rw[HC.out] at hc;cases hc)⟩
    rw[HC.out] at hc
    cases hc
    exact⟨Aj,cj,by rw[HLN.out];rfl,by rw[HLN.out];exact HRJ.out.heap rfl⟩
end Go.Proofs.YthbbmdnfkkffjaaGreat

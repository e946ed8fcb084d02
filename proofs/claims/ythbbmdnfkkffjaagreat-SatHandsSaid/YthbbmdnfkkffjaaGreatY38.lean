/-
  Parts of the proof, joined by program: Byte2, Trc, Rise.
-/
import Derived.Test.YthbbmdnfkkffjaaGreatY37
import Derived.Test.YthbbmdnfkkffjaaGreatY16
import Derived.Test.YthbbmdnfkkffjaaGreatY30
import Derived.Test.YthbbmdnfkkffjaaGreatY01
import Derived.Lib.Hide
set_option maxHeartbeats 8000000
set_option maxRecDepth 100000
namespace Go.Proofs.aC
open Go Go.RowKit Go.Proofs.au
section
variable {P:Program} {ops:Array Oper} {rest:List Oper} {o:Oper} {a:Act} {Q:Exit→Act→World→Prop}
theorem Lj {w:World} (hgd:o.guard=none) (l c:Operand) (t e:TypeId) (z:Value) (bytes:Nat) (ho:o.op=.makeSlice t l c)
  (ht:P.underlying t=some (.slice e)) (hinfo:(P.info? e).map (fun i=>(i.zero,i.size,i.bytes))=some (some z,1,bytes)) (hz1:z.cells=#[z]) (n:Nat)
  (hl:a.eval l=.int .i64 0) (hc:a.eval c=.int .i64 (n:Int)) (hb:bytes*n≤281474976710656) (hn:n≤maxLen) (h63:n≤9223372036854775807)
  {B:Nat} {w0:World} {F:HP} (hst:St B w0 w F)
  (h:∀ b w',St B w0 w' (star (sl (some b) 0 n e 1 []) F)→wpList P ops Q rest (a.put o.dst (.slice (some ⟨b,0,none⟩) 0 n)) w') :
  wpList P ops Q (o :: rest) a w:=by
 refine wpList_plain hgd fun K hK=>?_;obtain⟨i,hi,hzz⟩:=Option.map_eq_some_iff.1 hinfo;simp only[Prod.mk.injEq] at hzz;obtain⟨hz,hs,hb2⟩:=hzz
 have hb':(i.bytes:Int)*(n:Int)≤281474976710656:=by
  have h:((i.bytes*n:Nat):Int)≤281474976710656:=by rw[hb2];omega
  rwa [Int.natCast_mul] at h
 have hr:=run_make (P:=P) w t e i z ht hi hz .i64 .i64 0 n (by omega) (by omega) hb' (by omega);simp only[Int.toNat_natCast,hs,Nat.mul_one,hz1] at hr;have h1:=hst.iC (madeCells #[z] n) e;rw[mM] at h1;have h2:St B w0 (w.alloc (.cells (madeCells #[z] n) e)) (star (sl (some w.heap.size) 0 n e 1 []) F):=⟨h1.below,h1.base,h1.sat.pO (by simp) (Nat.zero_le _) hn (by simp) (by simp)⟩;unfold Oper.wp execOp;simp only[ho,hl,hc,Sem.run_bind,Sem.run_pure,hr,Result.andThen_ok];exact hK _ _ (h _ _ h2)
end
end Go.Proofs.aC
namespace Go.Proofs.YthbbmdnfkkffjaaGreat
open Go.RowKit Go.Proofs.aC Go.Proofs.au
theorem Ll {B:Nat} {w0 w:World} {F:HP} (a:Option Nat) (c l:Nat) (xs:List Int) (n:Int) (hl:xs.length=l) (h:St B w0 w (star (Ba 5 a c xs) F)) (hx:l≤100000000) (h0:0≤n) (h1:n≤4294967295) :
  Calls Tryz.prog 76 #[.slice (a.map fun b=>⟨b,0,none⟩) l c,.int .i64 n] w fun e w'=>∃ a' c',e=.returned (.slice (a'.map fun b=>⟨b,0,none⟩) (l+4) c')∧St B w0 w' (star (Ba 5 a' c' (xs++iw n)) F):=by
 subst hl;exact Zu a c xs n h hx h0 h1
theorem VN {B:Nat} {w0 w:World} {F:HP} {t:TypeId} {a:Option Nat} {c:Nat} {xs:List Int} (h:St B w0 w (star (Ba t a c xs) F)):xs.length≤c∧c≤maxLen:=by
 obtain⟨_,h1,h2,_⟩:=h.sat.aR;exact⟨h1,h2⟩
def Dj (l:List (List Int)) (j:Nat):Nat:=((l.take j).map List.length).sum
theorem wu (l:List (List Int)) {j:Nat} (h:j<l.length):Dj l (j+1)=Dj l j+(gl l j).length:=by
 unfold Dj;rw[lI l j h,List.map_append,List.sum_append];simp
theorem DU (l:List (List Int)) (j:Nat):Dj l j≤(l.map List.length).sum:=by
 unfold Dj
 conv=>rhs;rw[←List.take_append_drop j l]
 rw[List.map_append,List.sum_append];omega
theorem NW (l:List (List Int)) {j:Nat} (h:l.length≤j):Dj l j=(l.map List.length).sum:=by unfold Dj;rw[List.take_of_length_le h]
theorem NY {l:List (List Int)} {j t:Nat} (hj:j<l.length) (ht:t<(gl l j).length) (h:TW (gi (gl l j) t)=false):Di l=([],120):=by
 unfold Di;rw[if_neg];intro ha;rw[List.all_eq_true] at ha;have h1:=ha (gl l j) (by rw[jq l j hj];exact List.getElem_mem hj);rw[List.all_eq_true] at h1;have h2:=h1 (gi (gl l j) t) (by rw[dh _ t ht];exact List.getElem_mem ht);rw[h] at h2
 cases h2
theorem VO {l:List (List Int)} (h:∀ j,j<l.length→∀ t,t<(gl l j).length→TW (gi (gl l j) t)=true):Di l=(Aw l,0):=by
 unfold Di;rw[if_pos];rw[List.all_eq_true];intro s hs;obtain⟨j,hj,rfl⟩:=List.getElem_of_mem hs;rw[List.all_eq_true];intro x hx;obtain⟨t,ht,rfl⟩:=List.getElem_of_mem hx;have:=h j hj t (by rw[jq l j hj];exact ht)
 rwa [jq l j hj,dh _ t ht] at this
def ab3 (w:World) (l:List (List Int)) (e:Ending) (w':World):Prop :=
 Below w.heap.size w w'∧((Di l).2=0→∃ a c,e=.returned (.tuple #[.slice (Option.map (fun b=>(⟨b,0,none⟩:Addr)) a) (Aw l).length c,.int .i64 0])∧St w.heap.size w w' (star (Ba 5 a c (Aw l)) emp)∧(Aw l).length≤c∧c≤9223372036854775807) ∧
  ((Di l).2≠0→e=.returned (.tuple #[.slice none 0 0,.int .i64 (Di l).2]))
theorem VP (l:List (List Int)):Aw l=iw 1347179569++iw l.length++l.flatMap pz:=by unfold Aw;rw[List.append_assoc]
theorem RX (A:Option Addr) (n cap:Nat) (l:List (List Int)) (w:World) (hr:um w A n l) (hsum:8+4*n+4*(l.map List.length).sum≤4194304) :
  Calls Tryz.prog 56 #[.slice A n cap] w (ab3 w l):=by
 have HR:=zH hr;have yS:=zH hsum;have hnb:n≤1048576:=by omega
 have adf:∀ j,j<n→(gl l j).length≤1048576:=fun j hj=>by
  have h1:=wu l (j:=j) (by have:=hr.len;omega);have h2:=DU l (j+1);omega
 have HE:=zH adf;clear hr hsum adf
 go_enter Tryz.func56,Tryz.ntmps56
 go_wp2
 go_loopw [4,16] (fun v4 v16 wr=>∃ j:Nat,j≤n∧v16=.int .i64 j∧(∃ s:Nat,v4=.int .i64 s∧Hid (s=8+4*j+4*Dj l j))∧Below w.heap.size w wr∧Hid (∀ i,i<j→∀ t,t<(gl l i).length→TW (gi (gl l i) t)=true)) (fun _ v16 _=>n-(intOf v16).toNat)
 case atStart=>exact⟨0,Nat.zero_le _,rfl,⟨8,rfl,rfl⟩,Below.refl _ _,(fun i hi=>absurd hi (Nat.not_lt_zero i):∀ i,i<0→_)⟩
 case round =>
  obtain⟨j,hj,rfl,⟨s,rfl,HS⟩,hB,fA⟩:=hrel
  have hsb:s≤4194304:=by
   have:=HS.out;have:=DU l j;have:=yS.out;omega
  by_cases hjn:j<n
  ·obtain⟨ab,ao,hA,hc⟩:=(HR.out.grow hB).cells (by omega);subst hA;obtain⟨Aj,cj,d1,kC⟩:=hc j hjn;have hsm:=HE.out j hjn;obtain⟨xs,hxs⟩:∃ xs,gl l j=xs:=⟨_,rfl⟩;obtain⟨ln,hln⟩:∃ ln,xs.length=ln:=⟨_,rfl⟩;rw[hxs,hln] at d1 kC;rw[hxs,hln] at hsm;have hsn:=wu l (j:=j) (by have:=HR.out.len;omega);rw[hxs,hln] at hsn;have HSN:=zH hsn;have Wl:=zH hxs;have fP:=zH hln;have HB:=zH hB;have Gy:=zH (kC);have hj0:(0:Int)≤(j:Int):=by omega
   have hj1:(j:Int)<(n:Int):=by omega
   clear hc hxs hln hsn hB kC;have HB2:=zH (show Below w.heap.size w (wr.alloc (.cells #[.slice Aj ln cj] 106)) from HB.out.alloc HB.out.size _);have aix:=zH (Gy.out.grow (show Below wr.heap.size wr (wr.alloc (.cells #[.slice Aj ln cj] 106)) from (Below.refl _ _).alloc (Nat.le_refl _) _))
   go_wp2
   obtain⟨w2,hw2⟩:∃ w2,wr.alloc (.cells #[.slice Aj ln cj] 106)=w2:=⟨_,rfl⟩;rw[hw2] at HB2 aix ⊢;clear hw2 d1
   go_loop [4,25] (fun v4 v25=>∃ t:Nat,t≤ln∧v25=.int .i64 t∧v4=.int .i64 ((s:Int)+4+4*t)∧Hid (∀ i,i<t→TW (gi xs i)=true)) (fun _ v25=>ln-(intOf v25).toNat)
   case atStart=>exact⟨0,Nat.zero_le _,rfl,by simp,(fun i hi=>absurd hi (Nat.not_lt_zero i):∀ i,i<0→_)⟩
   case round =>
    obtain⟨t,ht,rfl,rfl,HT⟩:=hrel
    by_cases htn:t<ln
    ·obtain⟨bx,ox,hAj,hcx⟩:=aix.out.cells (by omega);subst hAj;have d2:=hcx t htn;obtain⟨x,hx⟩:∃ x,gi xs t=x:=⟨_,rfl⟩;rw[hx] at d2;have HX:=zH hx;have t0:(0:Int)≤(t:Int):=by omega
     have t1:(t:Int)<(ln:Int):=by omega
     clear hcx hx
     by_cases h0:x<0
     ·have e0:decide (x<0)=true:=by simpa using h0
      have hbad:=NY (l:=l) (j:=j) (t:=t) (by have:=HR.out.len;omega) (by rw[Wl.out,fP.out];exact htn) (by rw[Wl.out,HX.out];simp[TW];omega);have HBAD:=zH hbad;clear hbad
      go_wp2
      go_ret2
      exact⟨HB2.out,fun h=>(by rw[HBAD.out] at h;cases h),fun _=>by rw[HBAD.out];rfl⟩
     ·have e0:decide (x<0)=false:=by simpa using h0
      by_cases h1:2147483647<x
      ·have e1:decide (2147483647<x)=true:=by simpa using h1
       have hbad:=NY (l:=l) (j:=j) (t:=t) (by have:=HR.out.len;omega) (by rw[Wl.out,fP.out];exact htn) (by rw[Wl.out,HX.out];simp[TW];omega);have HBAD:=zH hbad;clear hbad
       go_wp2
       go_ret2
       exact⟨HB2.out,fun h=>(by rw[HBAD.out] at h;cases h),fun _=>by rw[HBAD.out];rfl⟩
      ·have e1:decide (2147483647<x)=false:=by simpa using h1
       have hok:TW x=true:=DT.2 (by omega);have ae9:=zH hok;clear hok h0 h1
       go_wp2
       go_round
       case rel =>
        refine⟨t+1,by omega,by go_num,by rw[show (s:Int)+4+4*((t+1:Nat):Int)=(s:Int)+4+4*(t:Int)+4 by omega],(fun i hi=>?_:∀ i,i<t+1→TW (gi xs i)=true)⟩
        by_cases e:i=t
        ·rw[e,HX.out];exact ae9.out
        ·exact HT.out i (by omega)
       case measure=>simp[intOf];omega
    ·obtain rfl:t=ln:=by omega
     go_wp2
     go_roundw
     case rel =>
      refine⟨j+1,by omega,by go_num,⟨s+4+4*t,by simp,(by rw[HSN.out];have:=HS.out;omega:s+4+4*t=8+4*(j+1)+4*Dj l (j+1))⟩,HB2.out,(fun i hi=>?_:∀ i,i<j+1→∀ u,u<(gl l i).length→TW (gi (gl l i) u)=true)⟩
      by_cases e:i=j
      ·rw[e,Wl.out];intro u hu;exact HT.out u (by rw[←fP.out];exact hu)
      ·exact fA.out i (by omega)
     case measure=>simp[intOf];omega
  ·obtain rfl:j=n:=by omega
   have hlen:=HR.out.len;have hgood:=VO (l:=l) (fun i hi t ht=>fA.out i (by omega) t ht)
   have hs:s=(Aw l).length:=by
    rw[CQ,hlen];have:=HS.out;rw[NW l (by omega)] at this;exact this
   have jL:=zH hgood;have HSE:=zH hs;have HB:=zH hB;have HLEN:=zH hlen;have hds:decide (4194304<(s:Int))=false:=by simp;omega
   have abO:St w.heap.size w wr emp:=⟨hB,hB.size,Sat.emp _ _⟩;have RY:=zH abO;clear hlen hgood hs hB abO fA HS
   go_wp2_with (refine Lj rfl _ _ 49 5 (.int .u8 0) 1 rfl Tryz.underlying49 Tryz.infoByte rfl s rfl rfl (by omega) (by unfold maxLen;omega) (by omega) RY.out ?_;intro mb w3 h3;have H3:=zH h3;clear h3)
   refine (Ll (some mb) s 0 [] 1347179569 rfl H3.out (by omega) (by omega) (by omega)).mono ?_
   rintro e w4 ⟨a1,c1,rfl,h4⟩
   have H4:=zH h4;clear h4
   go_wp2_with fail
   refine (Ll a1 c1 4 _ j rfl H4.out (by omega) (by omega) (by omega)).mono ?_
   rintro e w5 ⟨a2,c2,rfl,h5⟩
   have H5:=zH (show St w.heap.size w w5 (star (Ba 5 a2 c2 (iw 1347179569++iw j)) emp) from h5);clear h5
   go_wp2
   go_loopw [9,49] (fun v9 v49 wt=>∃ (i:Nat) (a':Option Nat) (c':Nat) (cl:Nat),i≤j∧v49=.int .i64 i∧v9=.slice (a'.map fun b=>⟨b,0,none⟩) cl c'∧Hid (cl=8+4*i+4*Dj l i)∧Hid (St w.heap.size w wt (star (Ba 5 a' c' (iw 1347179569++iw j++(l.take i).flatMap pz)) emp))) (fun _ v49 _=>j-(intOf v49).toNat)
   case atStart=>exact⟨0,a2,c2,8,Nat.zero_le _,rfl,rfl,rfl,(by rw[List.take_zero,List.flatMap_nil,List.append_nil];exact H5.out:St w.heap.size w w5 (star (Ba 5 a2 c2 (iw 1347179569++iw j++(l.take 0).flatMap pz)) emp))⟩
   case round =>
    obtain⟨i,a',c',cl,hi,rfl,rfl,jW,HST⟩:=hrel
    by_cases hij:i<j
    ·obtain⟨ab,ao,hA,hc⟩:=HR.out.cells (by omega);subst hA;obtain⟨Aj,cj,d0,kC⟩:=hc i hij;have ab4:=World.block_lt_of_cell? w _ d0;have hsm:=HE.out i hij;obtain⟨xs,hxs⟩:∃ xs,gl l i=xs:=⟨_,rfl⟩;obtain⟨ln,hln⟩:∃ ln,xs.length=ln:=⟨_,rfl⟩;rw[hxs,hln] at d0 kC;rw[hxs,hln] at hsm;have d1:=(HST.out.below.cell ab4).trans d0;have hsn:=wu l (j:=i) (by rw[HLEN.out];exact hij);rw[hxs,hln] at hsn;have hle:=DU l (i+1)
     have htk:(l.take (i+1)).flatMap pz=(l.take i).flatMap pz++pz xs:=by
      rw[lI l i (by rw[HLEN.out];exact hij),hxs,List.flatMap_append];simp
     have ak8:cl+4+4*ln≤4194304:=by
      have:=jW.out;have:=yS.out;omega
     have hok:∀ t,t<ln→TW (gi xs t)=true:=fun t ht=>by
      have h1:=jL.out;unfold Di at h1
      split at h1
      ·rename_i ha;rw[List.all_eq_true] at ha;have h2:=ha (gl l i) (by rw[jq l i (by rw[HLEN.out];exact hij)];exact List.getElem_mem _);rw[List.all_eq_true,hxs] at h2;exact h2 _ (by rw[dh _ t (by omega)];exact List.getElem_mem _)
      ·cases h1
     have hlc:(iw 1347179569++iw j++(l.take i).flatMap pz).length=cl:=by
      rw[List.length_append,List.length_append,ru,iQ,iQ,List.length_take,HLEN.out];have:=jW.out;unfold Dj at this;omega
     have HSN:=zH hsn;have qH:=zH htk;have HLC:=zH hlc;have fA:=zH hok;have fP:=zH hln;have hj0:(0:Int)≤(i:Int):=by omega
     have hj1:(i:Int)<(j:Int):=by omega
     have H6:=zH ((St.iC HST.out #[.slice Aj ln cj] 106).aB (show _=star (Ba 5 a' c' (iw 1347179569++iw j++(l.take i).flatMap pz)) (pt wr.heap.size 106 [.slice Aj ln cj]) by rw[aQ];ac_rfl));have Gy:=zH kC;clear hc hxs hln hsn hle htk hok hlc kC
     go_wp2_with fail
     refine (Ll a' c' cl _ ln HLC.out H6.out (by omega) (by omega) (by omega)).mono ?_
     rintro e w7 ⟨a7,c7,rfl,h7⟩
     have HRJ7:=zH (Gy.out.grow h7.below);have H7:=zH h7
     have d7:w7.cell? ⟨wr.heap.size,0,none⟩=some (.slice Aj ln cj):=by
      rw[St.aG (h7.aB (j5 _ _)) 0];rfl
     have H7b:=zH ((h7.drop).aB (aQ _).symm);clear h7 d1 d0
     go_wp2
     obtain⟨RZ,Ua⟩:∃ RZ,iw 1347179569++iw j++(l.take i).flatMap pz++iw ln=RZ:=⟨_,rfl⟩;have hcl0:RZ.length=cl+4:=by rw[←Ua,List.length_append,HLC.out,iQ]
     rw[Ua] at H7b;have amA:=zH Ua;have amB:=zH hcl0;clear Ua hcl0 H7
     go_loopw [9,61] (fun v9 v61 wq=>∃ (t:Nat) (a':Option Nat) (c':Nat),t≤ln∧v61=.int .i64 t∧v9=.slice (a'.map fun b=>⟨b,0,none⟩) (cl+4+4*t) c'∧Hid (St w.heap.size w wq (star (Ba 5 a' c' (RZ++(xs.take t).flatMap iw)) emp))) (fun _ v61 _=>ln-(intOf v61).toNat)
     case atStart=>exact⟨0,a7,c7,Nat.zero_le _,rfl,rfl,(by rw[List.take_zero,List.flatMap_nil,List.append_nil];exact H7b.out:St w.heap.size w w7 (star (Ba 5 a7 c7 (RZ++(xs.take 0).flatMap iw)) emp))⟩
     case round =>
      obtain⟨t,a8,c8,ht,rfl,rfl,HQ⟩:=hrel
      by_cases htn:t<ln
      ·obtain⟨bx,ox,hAj,hcx⟩:=(Gy.out.grow HQ.out.below).cells (by omega);subst hAj;have d2:=hcx t htn;obtain⟨x,hx⟩:∃ x,gi xs t=x:=⟨_,rfl⟩;rw[hx] at d2;have VQ:=fA.out t htn;rw[hx] at VQ;obtain⟨x0,x1⟩:=DT.1 VQ
       have Zv:(xs.take (t+1)).flatMap iw=(xs.take t).flatMap iw++iw x:=by
        rw[gV xs t (by rw[fP.out];exact htn),hx,List.flatMap_append];simp
       have amC:=zH Zv
       have hlq:(RZ++(xs.take t).flatMap iw).length=cl+4+4*t:=by
        rw[List.length_append,amB.out,tT,List.length_take,fP.out];omega
       have HLQ:=zH hlq;have t0:(0:Int)≤(t:Int):=by omega
       have t1:(t:Int)<(ln:Int):=by omega
       clear hcx hx VQ Zv hlq
       go_wp2_with fail
       refine (Ll a8 c8 (cl+4+4*t) _ x HLQ.out HQ.out (by omega) (by omega) (by omega)).mono ?_
       rintro e w9 ⟨a9,c9,rfl,h9⟩
       have H9:=zH h9;clear h9
       go_wp2
       go_roundw
       case rel =>
        refine⟨t+1,a9,c9,by omega,by go_num,by rw[show cl+4+4*(t+1)=cl+4+4*t+4 by omega],(?_:St w.heap.size w w9 (star (Ba 5 a9 c9 (RZ++(xs.take (t+1)).flatMap iw)) emp))⟩;rw[amC.out,←List.append_assoc];exact H9.out
       case measure=>simp[intOf];omega
      ·obtain rfl:t=ln:=by omega
       go_wp2
       go_roundw
       case rel =>
        refine⟨i+1,a8,c8,cl+4+4*t,by omega,by go_num,rfl,(by rw[HSN.out];have:=jW.out;omega:cl+4+4*t=8+4*(i+1)+4*Dj l (i+1)),(?_:St w.heap.size w wr (star (Ba 5 a8 c8 (iw 1347179569++iw j++(l.take (i+1)).flatMap pz)) emp))⟩;rw[qH.out];have:=HQ.out;rw[List.take_of_length_le (by rw[fP.out];omega),←amA.out] at this;unfold pz;rw[fP.out];simp only[List.append_assoc] at this ⊢;exact this
       case measure=>simp[intOf];omega
    ·obtain rfl:i=j:=by omega
     have hfin:=HST.out;rw[List.take_of_length_le (by rw[HLEN.out];omega),←HLEN.out,←VP] at hfin
     have hcl:cl=(Aw l).length:=by
      rw[←HSE.out];have:=jW.out;rw[NW l (by rw[HLEN.out];omega)] at this;have h2:=CQ l;rw[←HSE.out,HLEN.out] at h2;omega
     obtain⟨f1,f2⟩:=VN hfin;have qA:=zH hfin;have amD:=zH hcl;clear hfin hcl
     go_wp2
     go_ret2
     exact⟨qA.out.below,fun _=>⟨a',c',(by rw[←amD.out];rfl),qA.out,f1,f2⟩,fun h=>absurd (by rw[jL.out]) h⟩
end Go.Proofs.YthbbmdnfkkffjaaGreat
namespace Go.Proofs.YthbbmdnfkkffjaaGreat
open Go.RowKit Go.Proofs.aC Go.Proofs.aA
open Go.Proofs.au hiding SM
theorem At.ab5 {B:Nat} {w0 w:World} {p:Nat} {M:MM} {F:HP} (h:At B w0 w p M F) (hs:M.last.xs.length≤1000000):Rd w (M.last.a.map fun b=>⟨b,0,none⟩) M.last.xs.length M.last.xs:=St.rd (t:=3) (a:=M.last.a) (c:=M.last.c) (xs:=M.last.xs) h.Qn (by omega)
theorem Tryz.isNil (n c:Nat) (w:World):Sem.run Tryz.prog (binOp BinOp.eql 27 (Value.slice none n c) (Value.slice none 0 0)) w=.ok (.bool true) w:=by kernel_rfl
theorem Tryz.aiy (a:Addr) (n c:Nat) (w:World):Sem.run Tryz.prog (binOp BinOp.eql 27 (Value.slice (some a) n c) (Value.slice none 0 0)) w=.ok (.bool false) w:=by kernel_rfl
section
variable {B:Nat} {w0 w:World} {p:Nat} {M:MM} {F:HP}
theorem VR (h:At B w0 w p M F) (hc:M.sv.core=[]) (hok:M.sv.last≠[]→ae4 M.sv M.sv.last) (hg:M.sv.given.length≤1000000) :
  Calls Tryz.prog 54 #[.pointer (some ⟨p,0,none⟩),.slice none 0 0] w fun e w' =>
   (M.sv.last=[]∧e=.returned (.tuple #[.slice none 0 0,.bool false])∧At B w0 w' p M F) ∨
   (M.sv.last≠[]∧∃ (a:Option Nat) (c ol:Nat) (W:vk),e=.returned (.tuple #[.slice (a.map fun b=>⟨b,0,none⟩) ol c,.bool true])∧W.length=ol∧At B w0 w' p M (star (bR 106 a c W) F)∧W.map (fun x=>x.2.2)=nk M.sv.steps M.sv.last M.sv.given.length):=by
 have hcl:M.core.xs.length=0:=by have h1:M.core.xs=[]:=hc;rw[h1];rfl
 have c1:=h.uy;obtain⟨gn,hgn⟩:∃ n,M.given.xs.length=n:=⟨_,rfl⟩;have hgn2:M.sv.given.length=gn:=by show (M.given.xs.map _).length=gn;rw[List.length_map];exact hgn
 rw[hgn2] at hg ⊢
 by_cases hl:M.last.xs=[]
 ·have hn:=h.bA hl;rw[hn] at c1;have H:=zH h;have HL:=zH hl;clear h hok hl hn;have e1:=Tryz.isNil M.last.xs.length M.last.c
  go_enter Tryz.func54,Tryz.ntmps54
  go_wp2
  go_ret2
  exact .inl ⟨HL.out,rfl,H.out⟩
 ·obtain⟨nl,hnl⟩:∃ n,M.last.xs.length=n:=⟨_,rfl⟩;have hpos:0<M.last.xs.length:=List.length_pos_iff.2 hl;obtain⟨lb,hlb⟩:=h.Wz hpos;rw[hlb,hnl] at c1;have hnd:=hok hl;have hlen:nl≤1000000:=by rw[←hnl];exact hnd.last.1
  have hrd:∀ w1,At B w0 w1 p M F→Rd w1 (some ⟨lb,0,none⟩) nl M.last.xs:=fun w1 h1=>by
   have:=At.ab5 h1 (by omega);rw[hlb,hnl] at this;exact this
  have H:=zH h;have HL:=zH hl;have HND:=zH hnd;have vR:=zH hnl;have Qb:=zH (show (M.last.a.map fun b=>(⟨b,0,none⟩:Addr))=some ⟨lb,0,none⟩ by rw[hlb];rfl);have Gs:=zH hrd;have HGN:=zH hgn;have jW:=zH hcl;clear h hok hl hnd hrd hlb hnl hgn hcl hpos hc hgn2
  go_enter Tryz.func54,Tryz.ntmps54
  have e1:=Tryz.aiy ⟨lb,0,none⟩ nl M.last.c;have hmm:=@run_makeMap Tryz.prog;have HC:=zH (show M.sv.core=[] from List.length_eq_zero_iff.1 jW.out)
  go_wp2
  have h1:=H.out.alloc (Obj.map #[] 0);revert h1;generalize w.alloc (Obj.map #[] 0)=w1;intro h1;have H1:=zH h1;clear h1 c1 H hmm
  go_loopg [22] 0 (fun g s22 wr=>s22=.int .i64 0∧Hid (g=0)∧Hid (At B w0 wr p M F))
  case atStart=>exact⟨rfl,rfl,H1.out⟩
  case round =>
   clear H1;obtain⟨rfl,_,H2⟩:=hrel;have e2:decide ((0:Int)<0)=false:=by simp
   have c1:=H2.out.uy;rw[vR.out] at c1;have HAL:=zH (H2.out.Wz (by rw[vR.out];have:=List.length_pos_iff.2 HL.out;rw[vR.out] at this;exact this));have c2:=H2.out.uw;rw[jW.out] at c2;have aiz:=zH (Gs.out wr H2.out);have hla:(M.last.a.map fun b=>(⟨b,0,none⟩:Addr))=some ⟨lb,0,none⟩:=Qb.out;rw[hla] at c1
   go_wp2_with fail
   refine (qZ (some ⟨lb,0,none⟩) nl M.last.c M.last.xs wr aiz.out hlen).mono ?_
   rintro e w3 ⟨fa,fc,rfl,k1⟩
   have h3:=H2.out.nest k1;have H3:=zH (h3.frame (show _=star (bO 3 fa fc M.last.xs) F by ac_rfl));have c3:=h3.uw;rw[jW.out] at c3;clear k1 h3 c1 c2 hla HAL aiz;unfold iB;rw[vR.out]
   go_wp2
   clear c3
   go_loopg [9,47] 0 (fun g s9 s47 wr2=>s9=.slice (fa.map fun b=>⟨b,0,none⟩) nl fc∧s47=.int .i64 0∧Hid (g=0)∧Hid (At B w0 wr2 p M (star (bO 3 fa fc M.last.xs) F)))
   case atStart=>exact⟨rfl,rfl,rfl,H3.out⟩
   case round =>
    clear H3 H2;obtain⟨rfl,rfl,_,H4⟩:=hrel;have e3:decide ((0:Int)<0)=false:=by simp
    have c4:=H4.out.rM;rw[HGN.out] at c4;have hst:fM B w0 (star (bO 3 fa fc M.last.xs) F) (fa.map fun b=>⟨b,0,none⟩) nl M.last.xs:=by rw[←vR.out];exact fM.own _ _ _ _ _ (by rw[vR.out];exact hlen)
    have adg:=zH (RU _ nl fc gn M.last.xs H4.out hst HND.out (by omega));clear hst
    go_wp2_with fail
    refine adg.out.mono ?_
    rintro e w5 ⟨a,c',ol,W,rfl,k2,k3,k4⟩
    have NQ:=zH k2;have Np:=zH (k3.frame (show _=star (bO 3 fa fc M.last.xs) (star (bR 106 a c' W) F) by ac_rfl)).iL;have HK4:=zH k4;clear k2 k3 k4 adg c4
    go_wp2
    go_ret2
    exact .inr ⟨HL.out,a,c',ol,W,rfl,NQ.out,Np.out,HK4.out⟩
end
section
variable {B:Nat} {w0 w:World} {q:Nat} {S:SM} {F:HP}
def iI (S:SM):List Int×Int:=if S.last=[]∨S.told≠2 then ([],122) else Di (nk S.steps S.last S.given.length)
structure aiA (S:SM):Prop where
 core:S.core=[]
 nd:S.last≠[]→ae4 S S.last
 given:S.given.length≤1000000
 sum:S.last≠[]→8+4*(nk S.steps S.last S.given.length).length+4*((nk S.steps S.last S.given.length).map List.length).sum≤4194304
theorem Lm (h:bL B w0 w q S F) (hok:aiA S) :
  Calls Tryz.prog 31 #[.pointer (some ⟨q,0,none⟩)] w fun e w' =>
   ((iI S).2=0→∃ a c,e=.returned (.tuple #[.slice (Option.map (fun b=>(⟨b,0,none⟩:Addr)) a) (iI S).1.length c,.int .i64 0])∧bL B w0 w' q S (star (Ba 5 a c (iI S).1) F)∧(iI S).1.length≤c∧c≤9223372036854775807) ∧
   ((iI S).2≠0→e=.returned (.tuple #[.slice none 0 0,.int .i64 (iI S).2])∧bL B w0 w' q S F):=by
 obtain⟨p,M,h1,h2⟩:=h;have hrf:=VR h1 (by rw[h2];exact hok.core) (by rw[h2];exact hok.nd) (by rw[h2];exact hok.given);rw[h2] at hrf;have k0:=bL.c h1;have YE:=zH hrf;have HS:=zH h2;have fA:=zH hok;obtain⟨R,hR⟩:∃ R,iI S=R:=⟨_,rfl⟩;rw[hR];have HR:=zH hR;clear h1 h2 hrf hok hR
 go_enter Tryz.func31,Tryz.ntmps31
 go_wp2_with fail
 refine YE.out.mono ?_
 rintro e w1 (⟨hl,rfl,h3⟩ | ⟨hl,a,c,ol,W,rfl,hW,h3,hN⟩)
 ·have ht:R=([],122):=by rw[←HR.out];unfold iI;rw[if_pos (.inl hl)]
  have HT:=zH ht;have HI:=zH (show bL B w0 w1 q S F from⟨p,M,h3,HS.out⟩);clear hl ht h3 YE
  go_wp2
  go_ret2
  exact⟨fun k=>(by rw[HT.out] at k;cases k),fun _=>⟨by rw[HT.out];rfl,HI.out⟩⟩
 ·have htd:=Va h3;have hts:M.told=S.told:=congrArg SM.told HS.out;rw[hts] at htd;have k1:w1.cell? ⟨q,0,none⟩=some (.pointer (some ⟨p,0,none⟩)):=bL.c (F:=star (bR 106 a c W) F) (h3.frame (by ac_rfl));have HTD:=zH htd;have H3:=zH h3;have HL:=zH hl;have HW:=zH hW;have HN:=zH hN;clear htd h3 hl hW hN YE hts k0
  by_cases h2t:S.told=2
  ·have e1:decide (S.told=2)=true:=by simpa using h2t
   have ht:R=Di (nk S.steps S.last S.given.length):=by rw[←HR.out];unfold iI;rw[if_neg (by intro k;rcases k with k | k;exact HL.out k;exact k h2t)]
   obtain⟨l,hl⟩:∃ l,nk S.steps S.last S.given.length=l:=⟨_,rfl⟩;have hsum:=fA.out.sum HL.out;rw[hl] at hsum ht;have hn2:=HN.out;rw[hl] at hn2;have HT:=zH ht
   have hrd:=pF (H3.out.st.aB (show _=star (bR 106 a c W) (star (stars (parts p M)) (star (pt q 67 [.pointer (some ⟨p,0,none⟩)]) F)) by ac_rfl)) (fun x hx=>by
    have hm:x.2.2∈l:=by rw[←hn2];exact List.mem_map.2 ⟨x,hx,rfl⟩
    obtain⟨i,hi,e⟩:=List.getElem_of_mem hm;have:=wu l (j:=i) hi;have h5:=DU l (i+1);rw[jq _ _ hi,e] at this
    omega) (by
     have h6:W.length=l.length:=by rw[←hn2,List.length_map]
     omega)
   rw[HW.out,hn2] at hrd;have hll:l.length=ol:=by rw[←hn2,List.length_map,HW.out]
   have HE:=zH (RX _ ol c l w1 hrd (by rw[←hll];exact hsum));clear hrd hsum hn2 ht hl hll
   go_wp2_with fail
   refine HTD.out.mono ?_
   rintro e w2 ⟨rfl,rfl⟩
   go_wp2_with fail
   refine HE.out.mono ?_
   rintro e w3 ⟨hbel,hg,hb⟩
   rw[←HT.out] at hg hb
   by_cases h0:R.2=0
   ·obtain⟨b,cb,rfl,g1,g2,g3⟩:=hg h0
    have hlen:(Aw l).length=R.1.length:=by
     have h7:=HT.out;unfold Di at h7
     split at h7
     ·rw[h7]
     ·rw[h7] at h0;cases h0
    have hbe:Aw l=R.1:=by
     have h7:=HT.out;unfold Di at h7
     split at h7
     ·rw[h7]
     ·rw[h7] at h0;cases h0
    rw[hbe] at g1 g2;have h8:=(H3.out.nest g1).frame (show _=star (bR 106 a c W) (star (pt q 67 [.pointer (some ⟨p,0,none⟩)]) (star (Ba 5 b cb R.1) F)) by rw[aQ];ac_rfl);have HI:=zH (show bL B w0 w3 q S (star (Ba 5 b cb R.1) F) from⟨p,M,h8.iL,HS.out⟩);have HG2:=zH g2;have HG3:=zH g3;have HLEN:=zH hlen;have H0:=zH h0;obtain⟨x,hx⟩:∃ x,(Aw l).length=x:=⟨_,rfl⟩;rw[hx];have HX:=zH hx;clear hg hb hlen hbe g1 g2 g3 h8 h0 HE HTD hx hbel
    go_wp2
    go_ret2
    exact⟨fun _=>⟨b,cb,by rw[←HLEN.out,HX.out];rfl,HI.out,HG2.out,HG3.out⟩,fun k=>absurd H0.out k⟩
   ·have he:=hb h0;subst he;have hB:=hbel;have h8:=(H3.out.grow hB).frame (show _=star (bR 106 a c W) (star (pt q 67 [.pointer (some ⟨p,0,none⟩)]) F) by ac_rfl);have HI:=zH (show bL B w0 w3 q S F from⟨p,M,h8.iL,HS.out⟩);have H0:=zH h0;clear hg hb h8 h0 HE HTD hB hbel
    go_wp2
    go_ret2
    exact⟨fun k=>absurd k H0.out,fun _=>⟨rfl,HI.out⟩⟩
  ·have e1:decide (S.told=2)=false:=by simpa using h2t
   have ht:R=([],122):=by rw[←HR.out];unfold iI;rw[if_pos (.inr h2t)]
   have HT:=zH ht;have HI:=zH (show bL B w0 w1 q S F from⟨p,M,H3.out.iL,HS.out⟩);clear ht
   go_wp2_with fail
   refine HTD.out.mono ?_
   rintro e w2 ⟨rfl,rfl⟩
   go_wp2
   go_ret2
   exact⟨fun k=>(by rw[HT.out] at k;cases k),fun _=>⟨by rw[HT.out];rfl,HI.out⟩⟩
end
end Go.Proofs.YthbbmdnfkkffjaaGreat
namespace Go.Proofs.au
def kV (l:List Int):Prop:=l.Pairwise (·<·)
theorem kV.ext:∀ {a b:List Int},kV a→kV b→(∀ x,x∈a↔x∈b)→a=b
 | [],[],_,_,_=>rfl
 | [],y :: b,_,_,h=>absurd ((h y).2 (by simp)) (by simp)
 | x :: a,[],_,_,h=>absurd ((h x).1 (by simp)) (by simp)
 | x :: a,y :: b,ha,hb,h=>by
  obtain⟨ha1,ha2⟩:=List.pairwise_cons.1 ha;obtain⟨hb1,hb2⟩:=List.pairwise_cons.1 hb
  have hxy:x=y:=by
   rcases List.mem_cons.1 ((h x).1 (by simp)) with e | e
   ·exact e
   ·rcases List.mem_cons.1 ((h y).2 (by simp)) with e' | e'
    ·exact e'.symm
    ·have:=hb1 x e;have:=ha1 y e';omega
  subst hxy
  congr 1
  refine kV.ext ha2 hb2 fun z=>?_
  constructor
  ·intro hz;rcases List.mem_cons.1 ((h z).1 (by simp[hz])) with e | e
   ·have:=ha1 z hz;omega
   ·exact e
  ·intro hz;rcases List.mem_cons.1 ((h z).2 (by simp[hz])) with e | e
   ·have:=hb1 z hz;omega
   ·exact e
theorem Lp (x z:Int):∀ out:List Int,z∈ins x out↔z=x∨z∈out
 | []=>by simp[ins]
 | y :: r=>by
  have:=Lp x z r;unfold ins
  split
  ·simp only[List.mem_cons,this]
   constructor
   ·rintro (h | h | h) <;> simp[h]
   ·rintro (h | h | h) <;> simp[h]
  ·split
   ·rename_i e;subst e;simp
   ·simp
theorem JR (x:Int):∀ out:List Int,kV out→kV (ins x out)
 | [],_=>by simp[ins,kV]
 | y :: r,h=>by
  obtain⟨h1,h2⟩:=List.pairwise_cons.1 h;unfold ins
  split
  ·rename_i hlt;refine List.pairwise_cons.2 ⟨fun z hz=>?_,JR x r h2⟩;rcases (Lp x z r).1 hz with rfl | hz
   ·exact hlt
   ·exact h1 z hz
  ·split
   ·exact h
   ·rename_i h3 h4;refine List.pairwise_cons.2 ⟨fun z hz=>?_,h⟩;rcases List.mem_cons.1 hz with rfl | hz
    ·omega
    ·have:=h1 z hz;omega
theorem Gz:∀ (xs out:List Int),(∀ x∈xs,gH x=true)→kV out→∃ s,lQ out xs=some s∧kV s∧∀ z,z∈s↔z∈out∨z∈xs
 | [],out,_,h=>⟨out,rfl,h,fun z=>by simp⟩
 | x :: r,out,hx,h=>by
  obtain⟨s,h1,h2,h3⟩:=Gz r (ins x out) (fun y hy=>hx y (by simp[hy])) (JR x out h);refine⟨s,by rw[lQ,if_pos (hx x (by simp))];exact h1,h2,fun z=>?_⟩;rw[h3,Lp];simp only[List.mem_cons]
  constructor
  ·rintro ((h | h) | h) <;> simp[h]
  ·rintro (h | h | h) <;> simp[h]
theorem yT:∀ (xs out:List Int),(∃ x∈xs,gH x=false)→lQ out xs=none
 | [],out,h=>by obtain⟨x,hx,_⟩:=h;cases hx
 | y :: r,out,h=>by
  rw[lQ]
  split
  ·rename_i hy;obtain⟨x,hx,hb⟩:=h;rcases List.mem_cons.1 hx with rfl | hx
   ·rw[hy] at hb;cases hb
   ·exact yT r _ ⟨x,hx,hb⟩
  ·rfl
theorem BU {xs:List Int} (h:∀ x∈xs,gH x=true):∃ s,qh xs=some s∧kV s∧∀ z,z∈s↔z∈xs:=by
 obtain⟨s,h1,h2,h3⟩:=Gz xs [] h List.Pairwise.nil;exact⟨s,h1,h2,fun z=>by rw[h3];simp⟩
end Go.Proofs.au
namespace Go.Proofs.YthbbmdnfkkffjaaGreat
open Go.Proofs.au
def JU (xs:List Int):List Int:=Lib.compact (sorted xs)
theorem wP {zs:List Int} (hz:zs.Pairwise (·≤·)):∀ m,m≤zs.length→kV (Lib.compactUpTo zs.toArray m)∧∀ z,z∈Lib.compactUpTo zs.toArray m↔z∈zs.take m
 | 0,_=>⟨List.Pairwise.nil,fun z=>by simp[Lib.compactUpTo]⟩
 | m+1,hm=>by
  obtain⟨h1,h2⟩:=wP hz m (by omega);have hle:=List.pairwise_iff_getElem.1 hz;have hget:∀ i (hi:i<zs.length),zs.toArray[i]! =zs[i]:=fun i hi=>by simp[hi]
  have ht:zs.take (m+1)=zs.take m++[zs[m]]:=List.take_succ_eq_append_getElem (by omega);rw[Lib.compactUpTo_succ,ht,hget m (by omega)]
  cases hk:Lib.keeps zs.toArray m with
  | true =>
   rw[if_pos rfl];refine⟨?_,fun z=>by rw[List.mem_append,List.mem_append,h2 z]⟩;unfold kV;rw[List.pairwise_append];refine⟨h1,by simp,fun a ha b hb=>?_⟩;rw[List.mem_singleton.1 hb];obtain⟨i,hi,rfl⟩:=List.getElem_of_mem ((h2 a).1 ha);have him:i<m:=by rw[List.length_take] at hi;omega
   rw[List.getElem_take]
   have hne:zs[m]≠zs[m-1]:=by
    intro e;have:=Lib.keeps_neg (d:=zs.toArray) (m:=m) (by omega) (by rw[hget m (by omega),hget (m-1) (by omega)];exact e);rw[this] at hk;cases hk
   have e1:zs[m-1]≤zs[m]:=hle (m-1) m (by omega) (by omega) (by omega)
   have e2:zs[i]≤zs[m-1]:=by
    by_cases e:i=m-1
    ·subst e;exact Int.le_refl _
    ·exact hle i (m-1) (by omega) (by omega) (by omega)
   omega
  | false =>
   rw[if_neg (by simp),List.append_nil];refine⟨h1,fun z=>?_⟩;rw[h2 z,List.mem_append,List.mem_singleton]
   constructor
   ·exact .inl
   ·rintro (h | rfl)
    ·exact h
    ·have h0:0<m:=by
      rcases Nat.eq_zero_or_pos m with e | e
      ·subst e;rw[Lib.keeps_lt_one _ 0 (by omega)] at hk;cases hk
      ·exact e
     have e:zs[m]=zs[m-1]:=by
      apply Classical.byContradiction;intro hne;have:=Lib.keeps_pos (d:=zs.toArray) (m:=m) (by rw[hget m (by omega),hget (m-1) (by omega)];exact hne);rw[this] at hk;cases hk
     rw[e];exact List.mem_iff_getElem.2 ⟨m-1,by rw[List.length_take];omega,by rw[List.getElem_take]⟩
theorem JV (xs:List Int):(sorted xs).Pairwise (·≤·):=by
 have:=List.pairwise_mergeSort (le:=fun x y:Int=>decide (x≤y)) (fun a b c h1 h2=>by simp at *;omega) (fun a b=>by simp;omega) xs;exact this.imp (by simp)
theorem GA (xs:List Int) (z:Int):z∈sorted xs↔z∈xs:=by unfold sorted;exact List.mem_mergeSort
theorem R5 (xs:List Int):kV (JU xs)∧∀ z,z∈JU xs↔z∈xs:=by
 obtain⟨h1,h2⟩:=wP (JV xs) (sorted xs).length (Nat.le_refl _);refine⟨h1,fun z=>?_⟩;have:z∈JU xs↔z∈(sorted xs).take (sorted xs).length:=h2 z;rw[this,List.take_length,GA]
theorem Lr {xs:List Int} (h:xs.Nodup):kV (sorted xs):=by
 have h1:=JV xs;have h2:(sorted xs).Nodup:=(List.mergeSort_perm xs _).nodup_iff.2 h;have h3:=List.pairwise_and_iff.2 ⟨h1,h2⟩;exact h3.imp fun ⟨a,b⟩=>by omega
end Go.Proofs.YthbbmdnfkkffjaaGreat

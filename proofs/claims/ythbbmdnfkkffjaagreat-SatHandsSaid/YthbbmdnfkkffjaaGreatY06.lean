/-
  Parts of the proof, joined by program: Hp4, StepA, Hp5, Hp6.
-/
import Derived.Test.YthbbmdnfkkffjaaGreatY05
import Derived.Test.YthbbmdnfkkffjaaGreatY02
import Derived.Test.YthbbmdnfkkffjaaGreatY04
import Derived.Test.YthbbmdnfkkffjaaGreatY01
import Derived.Laws.Bits64
import Derived.WalkLawsBesides
import Derived.BigRegion
import Derived.Deep.RegionHeld
import Derived.Deep.RegionLaw
import Derived.Laws.BitsLemmas
import Derived.Deep.DeepCutAuto
import Derived.Lib.Hide
set_option maxHeartbeats 8000000
set_option maxRecDepth 100000
namespace Go.Proofs.YthbbmdnfkkffjaaGreat
open Go.RowKit Go.Proofs.aC Go.Proofs.au Go.Proofs.aA
theorem Tryz.bW:(Tryz.prog.info? 3).map (fun i=>(i.zero,i.size,i.bytes))=some (some (.int .i64 0),1,8):=by kernel_rfl
section
variable {B:Nat} {w0 w:World} {p:Nat} {M:MM} {F:HP}
theorem Tj (v:Nat) (h:At B w0 w p M F) (hb:HB M.sv) (hv:v<M.value.xs.length) (hroom:gn M.place.xs v=0→M.hl.xs.length<M.value.xs.length) :
  Calls Tryz.prog 86 #[.pointer (some ⟨p,15,none⟩),.int .i64 v] w fun e w'=>e=.returned (.tuple #[])∧wZ B w0 w' p M F (M.sv.put v):=by
 obtain⟨N,hN⟩:∃ N,M.value.xs.length=N:=⟨_,rfl⟩;have hpl:M.place.xs.length=N:=by rw[←hN];exact hb.place
 have hsm:N≤100000:=by rw[←hN];exact hb.small
 rw[hN] at hroom hv;obtain⟨bp,hbp⟩:=h.Du (by omega);obtain⟨d1,_⟩:=h.Dv hbp (aM M.place.xs v (by omega));have c1:=h.y9;rw[hbp,hpl] at c1;simp only[Option.map_some,vN] at c1 d1;have hput:M.sv.put v=if gn M.place.xs v=0 then SM.up (MM.sv (M.Bd ⟨M.hl.a,M.hl.c,M.hl.xs++[v]⟩)) M.hl.xs.length else M.sv:=rfl
 obtain⟨x,hx⟩:∃ x,gn M.place.xs v=x:=⟨_,rfl⟩;rw[hx] at d1 hput hroom;obtain⟨ln,hln⟩:∃ ln,M.hl.xs.length=ln:=⟨_,rfl⟩;have c2:=h.wD;have t2:=h.Me;rw[hln] at c2 hput hroom t2;have H:=zH h;have C9:=zH hb;have fP:=zH hln;have HN:=zH hN;have HT2:=zH t2;have v0:(0:Int)≤(v:Int):=by omega
 have v1:(v:Int)<(N:Int):=by omega
 by_cases hx0:x=0
 ·subst hx0;rw[if_pos rfl] at hput;have hr:=hroom rfl;have Uz:=zH hput;clear h hb hN hpl hx hln t2 hput hroom hbp
  go_enter Tryz.func86,Tryz.ntmps86
  go_wp2_with (at_builtin;refine aO rfl _ _ 27 3 (.int .i64 0) 8 rfl Tryz.underlying27 Tryz.bW rfl HT2.out rfl (.int .i64 v) rfl rfl (by omega) (by simp only[maxLen];omega) ?_;intro b' c' w2 h2;have h3:=At.aaJ (x:=v) H.out.bA fP.out h2;have H3:=zH h3;clear h2 h3;obtain⟨c3,f3⟩:=H3.out.1)
  have hb3:HB (MM.sv (M.Bd ⟨some b',c',M.hl.xs++[v]⟩)):=by
   refine⟨C9.out.small,?_,C9.out.place,C9.out.met,?_⟩
   ·intro y hy;rcases List.mem_append.1 (show y∈M.hl.xs++[v] from hy) with hy | hy
    ·exact C9.out.vars y hy
    ·rw[List.mem_singleton.1 hy];show v<M.value.xs.length;rw[HN.out];exact hv
   ·show (M.hl.xs++[v]).length≤M.value.xs.length;rw[List.length_append,fP.out,HN.out];simp;omega
  refine (WE ln H3.out.2 hb3 (by show ln<(M.hl.xs++[v]).length;rw[List.length_append,fP.out];simp)).mono ?_
  rintro e w4 ⟨rfl,a2,b2,m2,h4,h5⟩
  have H4:=zH h4;have H5:=zH h5;clear hb3 h4 h5
  go_wp2
  go_end0
  exact⟨rfl,a2,b2,m2,H4.out,H5.out.trans Uz.out.symm⟩
 ·have e1:((x:Int)==0)=false:=by simp;omega
  rw[if_neg hx0] at hput;have Uz:=zH hput;clear h hb hN hpl hx hln t2 hput hroom hbp
  go_enter Tryz.func86,Tryz.ntmps86
  go_wp2
  go_end0
  exact⟨rfl,M.hl,M.place,M.met,H.out,Uz.out.symm⟩
theorem WI (v:Nat) (h:At B w0 w p M F) (hb:HB M.sv) (hv:v<M.value.xs.length) (adI:∀ x,gn M.place.xs v=x+1→x<M.hl.xs.length) :
  Calls Tryz.prog 116 #[.pointer (some ⟨p,15,none⟩),.int .i64 v,.int .u64 1] w fun e w'=>e=.returned (.tuple #[])∧wZ B w0 w' p M F (M.sv.meet v):=by
 obtain⟨N,hN⟩:∃ N,M.value.xs.length=N:=⟨_,rfl⟩;have hpl:M.place.xs.length=N:=by rw[←hN];exact hb.place
 have hml:M.met.xs.length=N:=by rw[←hN];exact hb.met
 have hsm:N≤100000:=by rw[←hN];exact hb.small
 rw[hN] at hv;obtain⟨bp,hbp⟩:=h.Du (by omega);obtain⟨bm,yZ⟩:=h.Ww (by omega);obtain⟨d1,_⟩:=h.Dv hbp (aM M.place.xs v (by omega));obtain⟨d2,d3⟩:=h.SX yZ (aM M.met.xs v (by omega));have c1:=h.y9;have c2:=h.LZ;rw[hbp,hpl] at c1;rw[yZ,hml] at c2;simp only[Option.map_some,vN,v64] at c1 c2 d1 d2;have hbu:M.sv.meet v=if gn M.place.xs v=0 then M.sv.bump v else (M.sv.bump v).up (gn M.place.xs v-1):=rfl
 have hbv:M.sv.bump v=MM.sv (M.jw ⟨M.met.a,M.met.c,M.met.xs.set v ((gn M.met.xs v+1) % 18446744073709551616)⟩):=rfl;obtain⟨x,hx⟩:∃ x,gn M.place.xs v=x:=⟨_,rfl⟩;obtain⟨y,hy⟩:∃ y,gn M.met.xs v=y:=⟨_,rfl⟩;obtain⟨z,hz⟩:∃ z,(y+1) % 18446744073709551616=z:=⟨_,rfl⟩;rw[hx] at d1 hbu adI;rw[hy] at d2 hbv;rw[hz] at hbv;have hwr:IntKind.u64.wrap ((y:Int)+1)=(z:Int):=by rw[IntKind.wrap_u64];omega
 have n1:¬ bp=bm:=h.Ti (i:=9) (j:=10) rfl rfl (by decide) hbp yZ;have n2:¬ bm=bp:=fun e=>n1 e.symm;have n3:¬ bm=p:=h.acD yZ;have n4:¬ bp=p:=h.Kt hbp;have H:=zH h;have C9:=zH hb;have HN:=zH hN;have KA:=zH hml;have HBM:=zH yZ;have HBU:=zH hbu;have Ic:=zH hbv;have HZ:=zH hz;have v0:(0:Int)≤(v:Int):=by omega
 have v1:(v:Int)<(N:Int):=by omega
 clear h hb hN hpl hml hx hy hbp yZ hbu hbv hz;have HM1:=zH (H.out.SY HBM.out (by rw[KA.out];omega) z)
 by_cases hx0:x=0
 ·subst hx0
  go_enter Tryz.func116,Tryz.ntmps116
  go_wp2
  go_end0
  refine⟨rfl,M.hl,M.place,_,HM1.out,?_⟩;rw[HBU.out,if_pos trivial,Ic.out]
 ·obtain⟨k,hk1⟩:∃ k,x=k+1:=⟨x-1,by omega⟩;have hk:=adI k hk1;have e1:decide ((0:Int)<(x:Int))=true:=by simp;omega
  have e2:(x:Int)-1=(k:Int):=by omega
  have hkb:k≤100000:=by have h1:M.hl.xs.length≤M.value.xs.length:=C9.out.hl;have h2:=HN.out;omega
  have HK:=zH hk;have HK1:=zH hk1;clear adI hk hk1
  go_enter Tryz.func116,Tryz.ntmps116
  go_wp2_with fail
  refine (WE k HM1.out ⟨C9.out.small,C9.out.vars,C9.out.place,by show (M.met.xs.set v z).length=_;rw[List.length_set];exact C9.out.met,C9.out.hl⟩ HK.out).mono ?_
  rintro e w4 ⟨rfl,a2,b2,m2,h4,h5⟩
  have H4:=zH h4;have H5:=zH h5;clear h4 h5
  go_wp2
  go_end0
  refine⟨rfl,a2,b2,m2,H4.out,H5.out.trans ?_⟩;rw[HBU.out,if_neg hx0,Ic.out,HK1.out];rfl
theorem WJ (h:At B w0 w p M F) (hb:HB M.sv) :
  Calls Tryz.prog 109 #[.pointer (some ⟨p,15,none⟩)] w fun e w'=>e=.returned (.tuple #[])∧wZ B w0 w' p M F M.sv.lS:=by
 obtain⟨N,hN⟩:∃ N,M.value.xs.length=N:=⟨_,rfl⟩;have hml:M.met.xs.length=N:=by rw[←hN];exact hb.met
 have hsm:N≤100000:=by rw[←hN];exact hb.small
 have I4:M.hl.xs.length≤N:=by rw[←hN];exact hb.hl
 have c2:=h.LZ;rw[hml] at c2;obtain⟨ln,hln⟩:∃ ln,M.hl.xs.length=ln:=⟨_,rfl⟩;obtain⟨hn,hhn⟩:∃ hn,ln/2=hn:=⟨_,rfl⟩;have htd:(ln:Int).tdiv 2=(hn:Int):=by rw[Int.tdiv_eq_ediv_of_nonneg (by omega)];omega
 have H:=zH h;have C9:=zH hb;have HN:=zH hN;have KA:=zH hml;have fP:=zH hln;have HHN:=zH hhn;rw[hln] at I4;clear h hb hN hml hln
 go_enter Tryz.func109,Tryz.ntmps109
 go_wp2
 go_loopw [9] (fun s9 wr=>∃ (k:Nat),s9=.int .i64 k∧k≤N∧Hid (At B w0 wr p (M.jw ⟨M.met.a,M.met.c,(M.met.xs.take k).map (·/2)++M.met.xs.drop k⟩) F)) (fun s9 _=>N-(intOf s9).toNat)
 case atStart=>exact⟨0,rfl,Nat.zero_le _,H.out⟩
 case round =>
  obtain⟨k,rfl,hk,H2⟩:=hrel
  by_cases hkn:k<N
  ·obtain⟨bm,yZ⟩:=H2.out.Ww (by show 0<((M.met.xs.take k).map (·/2)++M.met.xs.drop k).length;simp;have:=KA.out;omega)
   have hget:((M.met.xs.take k).map (·/2)++M.met.xs.drop k)[k]?=some (gn M.met.xs k):=by
    have:=KA.out;rw[List.getElem?_append_right (by simp;omega)];simp only[List.length_map,List.length_take,Nat.min_eq_left (show k≤M.met.xs.length by omega),Nat.sub_self,List.getElem?_drop,Nat.add_zero];exact aM _ _ (by omega)
   obtain⟨d1,d2⟩:=H2.out.SX yZ hget;have hlen:((M.met.xs.take k).map (·/2)++M.met.xs.drop k).length=N:=by simp;have:=KA.out;omega
   have c3:=H2.out.LZ;rw[yZ] at c3;simp only[Option.map_some,v64] at c3 d1;rw[hlen] at c3;obtain⟨y,hy⟩:∃ y,gn M.met.xs k=y:=⟨_,rfl⟩;rw[hy] at d1;have HDV:=zH (show (y:Int)/2=((y/2:Nat):Int) by omega);have hn3:¬ bm=p:=H2.out.acD yZ;have H3:=zH (show At B w0 (wr.setCell ⟨bm,k,none⟩ (.int .u64 ((y:Int)/2))) p _ F by rw[HDV.out];exact H2.out.SY yZ (by show k<((M.met.xs.take k).map (·/2)++M.met.xs.drop k).length;omega) (y/2))
   have HE:=zH (show ((M.met.xs.take k).map (·/2)++M.met.xs.drop k).set k (y/2)=(M.met.xs.take (k+1)).map (·/2)++M.met.xs.drop (k+1) by
    have hl:=KA.out;rw[List.set_append,if_neg (by simp;omega)];rw[List.drop_eq_getElem_cons (show k<M.met.xs.length by omega),List.take_succ_eq_append_getElem (show k<M.met.xs.length by omega)];simp only[List.length_map,List.length_take,Nat.min_eq_left (show k≤M.met.xs.length by omega),Nat.sub_self,List.set_cons_zero,List.map_append,List.map_cons,List.map_nil,List.append_assoc,List.singleton_append]
    rw[←hy,fD _ _ (by omega)])
   have k0:(0:Int)≤(k:Int):=by omega
   have k1:(k:Int)<(N:Int):=by omega
   clear hy yZ hget hlen
   go_wp2
   go_roundw
   case rel=>exact⟨k+1,by go_num,by omega,(by rw[←HE.out];exact H3.out:At B w0 _ p (M.jw ⟨M.met.a,M.met.c,(M.met.xs.take (k+1)).map (·/2)++M.met.xs.drop (k+1)⟩) F)⟩
   case measure=>simp[intOf];omega
  ·obtain rfl:k=N:=by omega
   have h3:=H2.out;rw[List.take_of_length_le (by rw[KA.out];exact Nat.le_refl _),List.drop_of_length_le (by rw[KA.out];exact Nat.le_refl _),List.append_nil] at h3;have H3:=zH h3;have c4:=h3.wD;rw[show (M.jw ⟨M.met.a,M.met.c,M.met.xs.map (·/2)⟩).hl.xs.length=ln from fP.out] at c4;have HB3:=zH (show HB (MM.sv (M.jw ⟨M.met.a,M.met.c,M.met.xs.map (·/2)⟩)) from⟨C9.out.small,C9.out.vars,C9.out.place,by show (M.met.xs.map (·/2)).length=_;rw[List.length_map];exact C9.out.met,C9.out.hl⟩);have HF:=zH (show SM.sift hn (MM.sv (M.jw ⟨M.met.a,M.met.c,M.met.xs.map (·/2)⟩))=M.sv.lS by rw[←hhn,←fP.out];rfl);clear h3
   go_wp2
   go_loopw [3] (fun s3 wr=>∃ (m:Nat) (z:Int) (a b c:Fl Nat),s3=.int .i64 z∧z=(m:Int)-1∧m≤hn∧Hid (At B w0 wr p (M.aP a b c) F)∧Hid (HB (MM.sv (M.aP a b c)))∧Hid (a.xs.length=ln)∧Hid (SM.sift m (MM.sv (M.aP a b c))=M.sv.lS)) (fun s3 _=>(intOf s3+1).toNat)
   case atStart=>exact⟨hn,(hn:Int)-1,M.hl,M.place,⟨M.met.a,M.met.c,M.met.xs.map (·/2)⟩,rfl,rfl,Nat.le_refl _,H3.out,HB3.out,fP.out,HF.out⟩
   case round =>
    obtain⟨m,z,a,b,c,rfl,hz,hm,H4,HB4,HL4,HG⟩:=hrel
    by_cases hm0:m=0
    ·subst hm0;obtain rfl:z=-1:=by omega
     have HG2:=zH (show MM.sv (M.aP a b c)=M.sv.lS from HG.out);clear HG hz
     go_wp2
     go_end0
     exact⟨rfl,a,b,c,H4.out,HG2.out⟩
    ·obtain⟨k,rfl⟩:∃ k,m=k+1:=⟨m-1,by omega⟩;obtain rfl:z=(k:Int):=by omega
     have hkl:k<ln:=by omega
     have HD:=zH (Ml k H4.out HB4.out (by show k<a.xs.length;rw[HL4.out];exact hkl));have HB5:=zH (HB4.out.down (i:=k) (by show k<a.xs.length;rw[HL4.out];exact hkl));have k0:(0:Int)≤(k:Int):=by omega
     clear hz
     go_wp2_with fail
     refine HD.out.mono ?_
     rintro e w5 ⟨rfl,a2,b2,c2,h4,h5⟩
     have H5:=zH h4;have HB6:=zH (show HB (MM.sv (M.aP a2 b2 c2)) by rw[show MM.sv (M.aP a2 b2 c2)=_ from h5];exact HB5.out);have HL6:=zH (show a2.xs.length=ln from ((congrArg (fun S:SM=>S.hl.length) h5).trans (qN _)).trans HL4.out);have Wi:=zH (show SM.sift k (MM.sv (M.aP a2 b2 c2))=M.sv.lS by rw[show MM.sv (M.aP a2 b2 c2)=_ from h5];exact HG.out);clear h4 h5 HD
     go_wp2
     go_roundw
     case rel=>exact⟨k,(k:Int)-1,a2,b2,c2,by go_num,rfl,by omega,H5.out,HB6.out,HL6.out,Wi.out⟩
     case measure=>simp[intOf] <;> omega
end
end Go.Proofs.YthbbmdnfkkffjaaGreat
namespace Go.Proofs.aC
open Go Go.RowKit
theorem bN {P:Program} {w:World} {ops:Array Oper} {o:Oper} {a:Act} {K:Act→World→Prop} {Q:Exit→Act→World→Prop} {E:Prop} (hgd:o.guard=none) (s x:Operand) (t e:TypeId) (z:Value) (bytes:Nat)
  (ho:o.op=.call { callee:=.builtin .append,args:=#[s,x],argTypes:=#[t,t] })
  (ht:P.underlying t=some (.slice e)) (hinfo:(P.info? e).map (fun i=>(i.zero,i.size,i.bytes))=some (some z,1,bytes)) (hzs:z.cells.size=1)
  {B:Nat} {w0:World} {v:Option Nat} {n c:Nat} {xs:List Value} {F:HP} (hst:St B w0 w (star (sl v n c e 1 xs) F))
  (hs:a.eval s=.slice (v.map fun b=>⟨b,0,none⟩) n c) (b:Nat) (y:Value) (hx:a.eval x=.slice (some ⟨b,0,none⟩) 1 1) (hc:w.cell? ⟨b,0,none⟩=some y) (h1:y.oneCell'=true) (hb:(n+1)*bytes≤140737488355328) (hn:n+1≤maxLen)
  (h:∀ b' c' w',St B w0 w' (star (sl (some b') (n+1) c' e 1 (xs++[y])) F)→(∀ k,k<w.heap.size→v≠some k→w'.heap[k]?=w.heap[k]?)→K (a.put o.dst (.slice (some ⟨b',0,none⟩) (n+1) c')) w') :
  if Region.wanted o (yielded ops a.tmps)=true then Oper.wp P o a w K Q else E:=by
 have hw:Region.wanted o (yielded ops a.tmps)=true:=by simp[Region.wanted,hgd]
 rw[if_pos hw];obtain⟨i,hi,hzz⟩:=Option.map_eq_some_iff.1 hinfo;simp only[Prod.mk.injEq] at hzz;obtain⟨hz0,hz1,hz2⟩:=hzz
 obtain⟨b',c',w',hr,h2,h3,_⟩:=kJ (P:=P) w0 w B t o.type e i z 1 bytes ht hi hz0 hz1 hz2 hzs (by omega) v n c xs F hst ⟨b,0,none⟩ 1 1 [y] rfl
  (fun j u hj=>by
   match j,hj with
   | 0,hj=>simp at hj;subst hj;simpa [Addr.add] using hc) (by simpa using h1) hn hb (by omega)
 unfold Oper.wp execOp;simp only[iB] at hr;simp only[ho,resolve,invoke,builtin,Sem.run_bind,Sem.run_pure,Result.andThen_ok,List.map_toArray,List.map_cons,List.map_nil,hs,hx,hr];exact h b' c' w' h2 h3
theorem fJ (w:World) (v:Value) (e:TypeId):(w.alloc (.cells #[v] e)).cell? ⟨w.heap.size,0,none⟩=some v:=by
 rw[cell_of_row _ _ _ _ _ _ (heap_alloc_new w _)];rfl
theorem I5 (w:World) (v:Value) (e:TypeId) (o:Obj):((w.alloc o).alloc (.cells #[v] e)).cell? ⟨w.heap.size+1,0,none⟩=some v:=by
 have h:(w.alloc o).heap.size=w.heap.size+1:=by simp
 rw[←h];exact fJ (w.alloc o) v e
theorem Mq (w:World) (v:Value) (e:TypeId) (o:Obj):((w.alloc (.cells #[v] e)).alloc o).cell? ⟨w.heap.size,0,none⟩=some v :=
 (World.cell?_alloc_some _ _ _ (by rw[fJ];rfl)).trans (fJ w v e)
theorem size_two (w:World) (o o':Obj):((w.drew.alloc o).alloc o').heap.size=w.heap.size+2:=by
 have h1:((w.drew.alloc o).alloc o').heap.size=w.drew.heap.size+2:=by simp
 exact h1
end Go.Proofs.aC
namespace Go.Proofs.YthbbmdnfkkffjaaGreat
open Go.RowKit Go.Proofs.aC Go.Proofs.au Go.Proofs.aA
theorem Tryz.KC:(Tryz.prog.info? 137).map (fun i=>(i.zero,i.size,i.bytes))=some (some (.int .u64 0),1,8):=by kernel_rfl
section
variable {B:Nat} {w0 w:World} {p:Nat} {M:MM} {F:HP}
theorem Mr (h:At B w0 w p M F) (hb:HB M.sv) :
  Calls Tryz.prog 93 #[.pointer (some ⟨p,15,none⟩)] w fun e w'=>e=.returned (.int .i64 M.sv.take.2)∧wZ B w0 w' p M F M.sv.take.1:=by
 obtain⟨N,hN⟩:∃ N,M.value.xs.length=N:=⟨_,rfl⟩;have hpl:M.place.xs.length=N:=by rw[←hN];exact hb.place
 have hsm:N≤100000:=by rw[←hN];exact hb.small
 have I4:M.hl.xs.length≤N:=by rw[←hN];exact hb.hl
 have hv:∀ x∈M.hl.xs,x<N:=by rw[←hN];exact hb.vars
 have c1:=h.wD;obtain⟨ln,hln⟩:∃ ln,M.hl.xs.length=ln:=⟨_,rfl⟩;rw[hln] at c1 I4;have htk:M.sv.take=if M.hl.xs.length=0 then (M.sv,0) else (M.sv.taken,gn M.hl.xs 0):=rfl
 rw[hln] at htk;have H:=zH h;have C9:=zH hb;have fP:=zH hln;have Wh:=zH hpl;have HV:=zH hv;have HN:=zH hN
 by_cases hl0:ln=0
 ·subst hl0;rw[if_pos rfl] at htk;have qH:=zH htk;clear h hb hN hpl hln hv htk
  go_enter Tryz.func93,Tryz.ntmps93
  go_wp2
  go_ret
  exact⟨by rw[qH.out];rfl,M.hl,M.place,M.met,H.out,by rw[qH.out]⟩
 ·rw[if_neg hl0] at htk;obtain⟨m,hm⟩:∃ m,ln=m+1:=⟨ln-1,by omega⟩;have hm1:(ln:Int)-1=(m:Int):=by omega
  obtain⟨bh,Ht⟩:=h.Bl (by omega);obtain⟨bp,hbp⟩:=h.Du (by omega);obtain⟨d1,_⟩:=h.wW Ht (aM M.hl.xs 0 (by omega));obtain⟨d2,_⟩:=h.wW Ht (aM M.hl.xs m (by omega));have hx0:gn M.hl.xs 0<N:=hv _ (aU _ _ (by omega));have hx1:gn M.hl.xs m<N:=hv _ (aU _ _ (by omega))
  have htd:M.sv.taken=if M.hl.xs.length=1 then MM.sv ((M.Bd ⟨M.hl.a,M.hl.c,[]⟩).kG ⟨M.place.a,M.place.c,M.place.xs.set (gn M.hl.xs 0) 0⟩)
   else ((MM.sv ((M.Bd ⟨M.hl.a,M.hl.c,M.hl.xs.take (M.hl.xs.length-1)⟩).kG ⟨M.place.a,M.place.c,M.place.xs.set (gn M.hl.xs 0) 0⟩)).lay 0 (gn M.hl.xs (M.hl.xs.length-1))).down 0:=rfl
  rw[hln,show ln-1=m by omega] at htd;obtain⟨x,hx⟩:∃ x,gn M.hl.xs 0=x:=⟨_,rfl⟩;obtain⟨y,hy⟩:∃ y,gn M.hl.xs m=y:=⟨_,rfl⟩;rw[hx] at d1 hx0 htk htd;rw[hy] at d2 hx1 htd;obtain⟨d3,d4⟩:=h.Dv hbp (aM M.place.xs x (by omega));have c2:=h.y9;have f1:=h.fz 15;rw[hbp,hpl] at c2;rw[Ht] at c1;simp only[Option.map_some,vN] at c1 c2 d1 d2 d3;have n1:¬ bh=bp:=h.Ti (i:=8) (j:=9) rfl rfl (by decide) Ht hbp;have n2:¬ bp=bh:=fun e=>n1 e.symm;have n3:¬ bh=p:=h.agc Ht;have n4:¬ bp=p:=h.Kt hbp;have n5:¬ p=bp:=fun e=>n4 e.symm;have n6:¬ p=bh:=fun e=>n3 e.symm;have HBP:=zH hbp;have qH:=zH htk;have HTD:=zH htd;have Hw:=zH Ht;have m0:(0:Int)≤(m:Int):=by omega
  have m1:(m:Int)<(ln:Int):=by omega
  have l0:(0:Int)<(ln:Int):=by omega
  have x0:(0:Int)≤(x:Int):=by omega
  have x1:(x:Int)<(N:Int):=by omega
  have HM:=zH hm;have hmb:m≤100000:=by omega
  have hmw:IntKind.i64.wrap (m:Int)=(m:Int):=by rw[IntKind.wrap_i64];omega
  obtain⟨hc,hhc⟩:∃ hc,M.hl.c=hc:=⟨_,rfl⟩;have hlc:ln≤M.hl.c:=by have:=h.Me.sat.aR.2.1;omega
  rw[hhc] at c1 hlc;have HHC:=zH hhc;have hmc:(m:Int)≤(hc:Int):=by omega
  have agj:=zH (show ∀ V,At B w0 V p M F→At B w0 (V.setCell ⟨p,15,none⟩ (.slice (some ⟨bh,0,none⟩) m hc)) p (M.Bd ⟨M.hl.a,M.hl.c,M.hl.xs.take m⟩) F from fun V hV=>by have:=hV.adG (n:=m) (by rw[fP.out];omega);rw[Hw.out,hhc] at this;rw[Hw.out,hhc];exact this);clear hhc;clear h hb hN hpl hln hv htk htd hx hy hbp Ht hm
  by_cases hm0:m=0
  ·subst hm0
   go_enter Tryz.func93,Tryz.ntmps93
   go_wp2
   go_quiet (fail)
   go_wp2
   go_region
   go_wp2_with fail
   go_ret
   have h1:=((agj.out _ (H.out.drewN (nq+1))).Bn (M:=M.Bd ⟨M.hl.a,M.hl.c,M.hl.xs.take 0⟩) HBP.out (by show x<M.place.xs.length;rw[Wh.out];omega) 0);refine⟨by rw[qH.out];rfl,_,_,M.met,h1,?_⟩;rw[qH.out];show _=M.sv.taken;rw[HTD.out,if_pos (by have:=HM.out;omega)];rfl
  ·have mp:(0:Int)<(m:Int):=by omega
   go_enter Tryz.func93,Tryz.ntmps93
   go_wp2
   go_quiet (fail)
   go_wp2
   go_region
   go_wp2_with fail
   have h1:=((agj.out _ (H.out.drewN (nq+1))).Bn (M:=M.Bd ⟨M.hl.a,M.hl.c,M.hl.xs.take m⟩) HBP.out (by show x<M.place.xs.length;rw[Wh.out];omega) 0);have hlm:(M.hl.xs.take m).length=m:=by rw[List.length_take,fP.out];omega
   have hb1:HB (MM.sv ((M.Bd ⟨M.hl.a,M.hl.c,M.hl.xs.take m⟩).kG ⟨M.place.a,M.place.c,M.place.xs.set x 0⟩)) :=
    ⟨C9.out.small,fun z hz=>C9.out.vars z (List.mem_of_mem_take hz),by show (M.place.xs.set x 0).length=_;rw[List.length_set];exact C9.out.place,C9.out.met,by show (M.hl.xs.take m).length≤_;rw[hlm];have h9:M.hl.xs.length≤M.value.xs.length:=C9.out.hl;rw[fP.out] at h9;show m≤M.value.xs.length;omega⟩
   have HB1:=zH hb1;have HLM:=zH hlm;refine (kK 0 y h1 (by show 0<(M.hl.xs.take m).length;rw[hlm];omega) (by show y<(M.place.xs.set x 0).length;rw[List.length_set,Wh.out];omega) (by show (M.hl.xs.take m).length≤_;rw[hlm];omega) (by show (M.place.xs.set x 0).length≤_;rw[List.length_set,Wh.out];omega)).mono ?_
   rintro e w4 ⟨rfl,a2,b2,h4,h5⟩
   have hb2:=hb1.lay (i:=0) (v:=y) (by show y<M.value.xs.length;rw[HN.out];omega);rw[←h5] at hb2
   have ha2:a2.xs.length=m:=by
    have:=congrArg (fun S:SM=>S.hl.length) h5;have h6:((MM.sv ((M.Bd ⟨M.hl.a,M.hl.c,M.hl.xs.take m⟩).kG ⟨M.place.a,M.place.c,M.place.xs.set x 0⟩)).lay 0 y).hl.length=m:=by show ((M.hl.xs.take m).set 0 y).length=m;rw[List.length_set,hlm]
    exact this.trans h6
   have H4:=zH h4;have H5:=zH h5;have HB2:=zH hb2;have HA2:=zH ha2;clear h1 hlm hb1 h4 h5 hb2 ha2
   go_wp2_with fail
   refine (Ml 0 H4.out HB2.out (by show 0<a2.xs.length;rw[HA2.out];omega)).mono ?_
   rintro e w5 ⟨rfl,a3,b3,c3,h4,h5⟩
   have H6:=zH h4;have H7:=zH h5;clear h4 h5
   go_wp2
   go_ret
   refine⟨by rw[qH.out];rfl,a3,b3,c3,H6.out,?_⟩;rw[qH.out];show _=M.sv.taken;rw[HTD.out,if_neg (by have:=HM.out;omega),←H5.out];exact H7.out
end
section
variable {B:Nat} {w0 w:World} {p:Nat} {M:MM} {F:HP}
theorem At.agk {b1 c1 b2 c2 n1 n2:Nat} {x y:Nat} (hl:M.last.xs=[]→M.last.a=none) (h1:M.place.xs.length=n1) (h2:M.met.xs.length=n2)
  (h:St B w0 w (star (sl (some b2) (n2+1) c2 137 1 (M.met.xs.map v64++[v64 y])) (star (stars (((parts p M).set 9 (sl (some b1) (n1+1) c1 3 1 (M.place.xs.map vN++[vN x]))).eraseIdx 10)) F))) :
  (w.cell? ⟨p,16,none⟩=some (.slice (M.place.a.map fun b=>⟨b,0,none⟩) n1 M.place.c)∧w.frozen? ⟨p,16,none⟩=false)∧(w.cell? ⟨p,17,none⟩=some (.slice (M.met.a.map fun b=>⟨b,0,none⟩) n2 M.met.c)∧w.frozen? ⟨p,17,none⟩=false) ∧
  At B w0 ((w.setCell ⟨p,16,none⟩ (.slice (some ⟨b1,0,none⟩) (n1+1) c1)).setCell ⟨p,17,none⟩ (.slice (some ⟨b2,0,none⟩) (n2+1) c2)) p ((M.kG ⟨some b1,c1,M.place.xs++[x]⟩).jw ⟨some b2,c2,M.met.xs++[y]⟩) F:=by
 subst h1 h2;have g2:=h.aH (Ps:=(parts p M).set 9 _) (k:=10) (by simp[parts]);have g3:=g2.aX (Ps:=((parts p M).set 9 _).set 10 _) (k:=0) (P:=pt p 92 (aI M)) rfl;refine⟨⟨g3.aG 16,g3.bU 16⟩,⟨g3.aG 17,g3.bU 17⟩,?_⟩;have g4:=(g3.bM 16 (.slice (some ⟨b1,0,none⟩) (M.place.xs.length+1) c1)).bM 17 (.slice (some ⟨b2,0,none⟩) (M.met.xs.length+1) c2);have g5:=g4.aH (Ps:=((parts p M).set 9 (sl (some b1) (M.place.xs.length+1) c1 3 1 (M.place.xs.map vN++[vN x]))).set 10 (sl (some b2) (M.met.xs.length+1) c2 137 1 (M.met.xs.map v64++[v64 y]))) (k:=0) (by simp[parts]);refine⟨g5.aB ?_,hl⟩;simp only[parts,aI,Fl.hp,Fl.v,List.map_append,List.map_cons,List.map_nil,List.length_append,List.length_singleton,List.set_cons_succ,List.set_cons_zero,Option.map_some]
theorem UA (v:Nat) (h:At B w0 w p M F) (hs:M.place.xs.length≤100000) (hs2:M.met.xs.length≤100000)
  (hb:0<v→HB (MM.sv ((M.kG ⟨M.place.a,M.place.c,M.place.xs++[0]⟩).jw ⟨M.met.a,M.met.c,M.met.xs++[0]⟩))∧v<M.value.xs.length∧M.hl.xs.length<M.value.xs.length) (hv:v≤100000) :
  Calls Tryz.prog 81 #[.pointer (some ⟨p,15,none⟩),.int .i64 v] w fun e w'=>e=.returned (.tuple #[]) ∧
   wZ B w0 w' p M F (if v=0 then MM.sv ((M.kG ⟨M.place.a,M.place.c,M.place.xs++[0]⟩).jw ⟨M.met.a,M.met.c,M.met.xs++[0]⟩) else (MM.sv ((M.kG ⟨M.place.a,M.place.c,M.place.xs++[0]⟩).jw ⟨M.met.a,M.met.c,M.met.xs++[0]⟩)).put v):=by
 obtain⟨lp,hlp⟩:∃ lp,M.place.xs.length=lp:=⟨_,rfl⟩;obtain⟨lm,hlm⟩:∃ lm,M.met.xs.length=lm:=⟨_,rfl⟩;have c1:=h.y9;have c2:=h.LZ;have t1:=h.vK;rw[hlp] at c1 hs t1;rw[hlm] at c2 hs2;have H:=zH h;have HLP:=zH hlp;have HLM:=zH hlm;have HB0:=zH hb;have HT1:=zH t1;have adK:∀ k,w.heap.size≤k→M.place.a≠some k:=fun k hk e=>by have:=(h.aaK e).1;omega
 have HP1:=zH (show ∀ b1 c1' (w1:World),St B w0 w1 (star (sl (some b1) (lp+1) c1' 3 1 (M.place.xs.map vN++[vN 0])) (star (stars ((parts p M).eraseIdx 9)) F)) →
   w1.cell? ⟨p,17,none⟩=some (.slice (M.met.a.map fun b=>⟨b,0,none⟩) lm M.met.c)∧St B w0 w1 (star (sl M.met.a lm M.met.c 137 1 (M.met.xs.map v64)) (star (stars (((parts p M).set 9 (sl (some b1) (lp+1) c1' 3 1 (M.place.xs.map vN++[vN 0]))).eraseIdx 10)) F))∧∀ o,(w1.alloc o).cell? ⟨p,17,none⟩=some (.slice (M.met.a.map fun b=>⟨b,0,none⟩) lm M.met.c) from fun b1 c1' w1 g=>by
  have g2:=g.aH (Ps:=parts p M) (k:=9) (by simp[parts])
  have g3:w1.cell? ⟨p,17,none⟩=some (.slice (M.met.a.map fun b=>⟨b,0,none⟩) lm M.met.c):=by
   rw[←hlm];exact (g2.aX (Ps:=(parts p M).set 9 _) (k:=0) (P:=pt p 92 (aI M)) rfl).aG 17
  refine⟨g3,?_,fun o=>(World.cell?_alloc_some _ _ _ (by rw[g3];rfl)).trans g3⟩;rw[←hlm]
  exact g2.aX (Ps:=(parts p M).set 9 _) (k:=10) rfl)
 have HP2:=zH (show ∀ b1 c1' b2 c2' (w2:World),St B w0 w2 (star (sl (some b2) (lm+1) c2' 137 1 (M.met.xs.map v64++[v64 0])) (star (stars (((parts p M).set 9 (sl (some b1) (lp+1) c1' 3 1 (M.place.xs.map vN++[vN 0]))).eraseIdx 10)) F))→_ from fun b1 c1' b2 c2' w2 g=>At.agk (p:=p) (M:=M) (F:=F) h.bA hlp hlm g)
 have HQ1:=zH (show ∀ (w1:World) ,(∀ k,k<((w.drew.alloc (.cells #[.int .i64 0] 3)).alloc (.cells #[.int .u64 0] 137)).heap.size→M.place.a≠some k→w1.heap[k]?=((w.drew.alloc (.cells #[.int .i64 0] 3)).alloc (.cells #[.int .u64 0] 137)).heap[k]?)→w1.cell? ⟨w.heap.size+1,0,none⟩=some (.int .u64 0) from fun w1 hk=>by
  have:=I5 w.drew (.int .u64 0) 137 (.cells #[.int .i64 0] 3);rw[←this];unfold World.cell?;rw[hk (w.heap.size+1) (by rw[size_two];omega) (adK _ (by omega))]
  rfl)
 have Wj:=zH (show ∀ (w1:World) ,(∀ k,k<((w.drew.alloc (.cells #[.int .u64 0] 137)).alloc (.cells #[.int .i64 0] 3)).heap.size→M.place.a≠some k→w1.heap[k]?=((w.drew.alloc (.cells #[.int .u64 0] 137)).alloc (.cells #[.int .i64 0] 3)).heap[k]?)→w1.cell? ⟨w.heap.size,0,none⟩=some (.int .u64 0) from fun w1 hk=>by
  have:=Mq w.drew (.int .u64 0) 137 (.cells #[.int .i64 0] 3);rw[←this];unfold World.cell?;rw[hk w.heap.size (by rw[size_two];omega) (adK _ (by omega))]
  rfl)
 have e1:∀ o,(w.alloc o).cell? ⟨p,16,none⟩=some (.slice (M.place.a.map fun b=>⟨b,0,none⟩) lp M.place.c):=fun o=>(World.cell?_alloc_some _ _ _ (by rw[c1];rfl)).trans c1;have e2:∀ o,(w.alloc o).cell? ⟨p,17,none⟩=some (.slice (M.met.a.map fun b=>⟨b,0,none⟩) lm M.met.c):=fun o=>(World.cell?_alloc_some _ _ _ (by rw[c2];rfl)).trans c2;have e3:∀ o o',((w.alloc o).alloc o').cell? ⟨p,16,none⟩=some (.slice (M.place.a.map fun b=>⟨b,0,none⟩) lp M.place.c):=fun o o'=>(World.cell?_alloc_some _ _ _ (by rw[e1];rfl)).trans (e1 o);have e4:∀ o o',((w.alloc o).alloc o').cell? ⟨p,17,none⟩=some (.slice (M.met.a.map fun b=>⟨b,0,none⟩) lm M.met.c):=fun o o'=>(World.cell?_alloc_some _ _ _ (by rw[e2];rfl)).trans (e2 o);clear h hlp hlm t1 hb adK
 go_enter Tryz.func81,Tryz.ntmps81
 go_wp2
 go_cut [11] (fun _ wx=>∃ b1 c1 b2 c2,At B w0 wx p ((M.kG ⟨some b1,c1,M.place.xs++[0]⟩).jw ⟨some b2,c2,M.met.xs++[0]⟩) F)
 case first =>
  go_region_law ((first
  | (refine bN (by rfl) _ _ 27 3 (.int .i64 0) 8 (by rfl) Tryz.underlying27 Tryz.bW rfl (HT1.out.drew.alloc _) (by rfl) w.heap.size (.int .i64 0) (by rfl) (fJ w.drew _ _) rfl (by omega) (by simp only[maxLen];omega) ?_;intro b1 c1' w1 g1 k1;obtain⟨g2,g3,g2a⟩:=HP1.out _ _ _ g1)
  | (refine bN (by rfl) _ _ 27 3 (.int .i64 0) 8 (by rfl) Tryz.underlying27 Tryz.bW rfl ((HT1.out.drew.alloc _).alloc _) (by rfl) w.heap.size (.int .i64 0) (by rfl) (Mq w.drew _ _ _) rfl (by omega) (by simp only[maxLen];omega) ?_;intro b1 c1' w1 g1 k1;obtain⟨g2,g3,g2a⟩:=HP1.out _ _ _ g1;have q1:=HQ1.out _ k1)
  | (refine bN (by rfl) _ _ 27 3 (.int .i64 0) 8 (by rfl) Tryz.underlying27 Tryz.bW rfl ((HT1.out.drew.alloc _).alloc _) (by rfl) (w.heap.size+1) (.int .i64 0) (by rfl) (I5 w.drew _ _ _) rfl (by omega) (by simp only[maxLen];omega) ?_;intro b1 c1' w1 g1 k1;obtain⟨g2,g3,g2a⟩:=HP1.out _ _ _ g1;have q1:=Wj.out _ k1)
  | (refine bN (by rfl) _ _ 86 137 (.int .u64 0) 8 (by rfl) Tryz.underlying86 Tryz.KC rfl (g3.alloc _) (by rfl) w1.heap.size (.int .u64 0) (by rfl) (fJ w1 _ _) rfl (by omega) (by simp only[maxLen];omega) ?_;intro b2 c2' w2 g4 _;obtain⟨⟨g5,g6⟩,⟨g7,g8⟩,g9⟩:=HP2.out _ _ _ _ _ g4)
  | (refine bN (by rfl) _ _ 86 137 (.int .u64 0) 8 (by rfl) Tryz.underlying86 Tryz.KC rfl g3 (by rfl) (w.heap.size+1) (.int .u64 0) (by rfl) q1 rfl (by omega) (by simp only[maxLen];omega) ?_;intro b2 c2' w2 g4 _;obtain⟨⟨g5,g6⟩,⟨g7,g8⟩,g9⟩:=HP2.out _ _ _ _ _ g4)
  | (refine bN (by rfl) _ _ 86 137 (.int .u64 0) 8 (by rfl) Tryz.underlying86 Tryz.KC rfl g3 (by rfl) w.heap.size (.int .u64 0) (by rfl) q1 rfl (by omega) (by simp only[maxLen];omega) ?_;intro b2 c2' w2 g4 _;obtain⟨⟨g5,g6⟩,⟨g7,g8⟩,g9⟩:=HP2.out _ _ _ _ _ g4)))
  all_goals
   go_wp2_with fail
   go_meet
   case rel=>first | exact⟨_,_,_,_,g9⟩ | exact⟨_,_,_,_,g9.drewN 1⟩
 case rest =>
 obtain⟨b1,c1,b2,c2,h3⟩:=hcut;have H3:=zH h3;clear h3
 by_cases hv0:v=0
 ·subst hv0
  go_wp2
  go_end0
  exact⟨rfl,M.hl,_,_,H3.out,rfl⟩
 ·have e5:decide ((0:Int)<(v:Int))=true:=by simp;omega
  obtain⟨q1,q2,q3⟩:=HB0.out (by omega);have HQ:=zH (Tj v H3.out q1 q2 (fun _=>q3));clear q1 q2 q3
  go_wp2_with fail
  refine HQ.out.mono ?_
  rintro e w4 ⟨rfl,a,b,c,h4,h5⟩
  have H4:=zH h4;have H5:=zH h5;clear h4 h5
  go_wp2
  go_end0
  exact⟨rfl,a,b,c,H4.out,H5.out⟩
end
end Go.Proofs.YthbbmdnfkkffjaaGreat

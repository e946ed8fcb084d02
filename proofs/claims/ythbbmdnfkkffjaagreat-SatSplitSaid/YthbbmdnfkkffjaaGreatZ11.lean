/-
  Parts of the proof, joined by program: Bk, RegE.
-/
import Derived.Test.YthbbmdnfkkffjaaGreatZ09
import Derived.Test.YthbbmdnfkkffjaaGreatZ06
import Derived.Test.YthbbmdnfkkffjaaGreatZ10
import Derived.Deep.RegionWith
import Derived.Deep.DeepCutAuto
import Derived.StillTailTactics
import Derived.Defers
import Derived.OrdersHeld
import Derived.Deep.RegionHeld3
namespace Go.Proofs.PlaitSep
open Go
def BodyWp (P:Program) (f:FuncId) (args:Array Value) (w:World) (R:Ending→World→Prop):Prop :=
 ∃ fn c,P.funcs[f]?=some fn∧fn.body=some c∧c.wp P (bodyPost P fn R) { tmps:=args++Array.replicate (fn.ntmps-args.size) undef,defers:=[] } w
theorem BodyWp.calls {P:Program} {f:FuncId} {args:Array Value} {w:World} {R:Ending→World→Prop} (h:BodyWp P f args w R):Calls P f args w R:=by
 obtain⟨_,_,h1,h2,h3⟩:=h
 exact calls_of_wp h1 h2 h3
theorem BodyWp.deferred {P:Program} {f:FuncId} {args:Array Value} {w:World} {R:Ending→World→Prop} (h:BodyWp P f args w R) (u:FrameMode):CallsD P f args u w fun e u' w'=>u'=u∧R e w':=by
 obtain⟨_,_,h1,h2,h3⟩:=h
 exact callsD_of_wp h1 h2 h3
end Go.Proofs.PlaitSep
namespace Go.Proofs.YthbbmdnfkkffjaaGreat
open Go.RowKit Go.Proofs.PlaitSep Go.Proofs.PlaitPure Go.Proofs.PlaitSat
abbrev MM.u_undo (M:MM) (ph:Fl Bool) (va re:Fl Int) (a b c:Fl Nat):MM:={ M with phase:=ph,value:=va,reason:=re,hl:=a,place:=b,met:=c }
abbrev MM.u_back (M:MM) (ph:Fl Bool) (va re:Fl Int) (a b c tr en:Fl Nat) (nx:Nat):MM:={ M with phase:=ph,value:=va,reason:=re,hl:=a,place:=b,met:=c,trail:=tr,ends:=en,next:=nx }
structure Sz (S:SM):Prop where
 level:S.level.length=S.value.length
 reason:S.reason.length=S.value.length
 phase:S.phase.length=S.value.length
 occurs:S.occurs.length=S.value.length
 units:S.units.length=S.value.length
 watches:S.watches.length=2*S.value.length
theorem HInv.undo {S:SM} (h:HInv S) {l:Nat} (hl:l/2<S.value.length):HInv (S.undo l):=by
 unfold SM.undo
 have hlen:(S.value.set (l/2) 0).length=S.value.length:=by simp
 refine HInv.put (S:={ S with phase:=S.phase.set (l/2) (l % 2==0),value:=S.value.set (l/2) 0,reason:=S.reason.set (l/2) (-1) }) ⟨⟨by show (S.value.set _ _).length≤_;rw[hlen];exact h.hb.small,fun x hx=>by show x<(S.value.set _ _).length;rw[hlen];exact h.hb.vars x hx,by show _=(S.value.set _ _).length;rw[hlen];exact h.hb.place,by show _=(S.value.set _ _).length;rw[hlen];exact h.hb.met,by show _≤(S.value.set _ _).length;rw[hlen];exact h.hb.hl⟩,h.pl,fun v hv hz=>h.bk v (by rw[←hlen];exact hv) hz⟩ (by show _<(S.value.set _ _).length;rw[hlen];exact hl)
theorem upGo_value:∀ (f:Nat) {S:SM} {v i:Nat},(SM.upGo f S v i).value=S.value
 | 0,_,_,_=>rfl
 | f+1,S,v,i=>by
  rw[SM.upGo]
  split
  ·rw[upGo_value f];rfl
  ·rfl
theorem put_value (S:SM) (v:Nat):(S.put v).value=S.value:=by
 unfold SM.put
 split
 ·exact upGo_value _
 ·rfl
theorem upGo_frame:∀ (f:Nat) (S:SM) (v i:Nat),SM.upGo f S v i={ S with hl:=(SM.upGo f S v i).hl,place:=(SM.upGo f S v i).place }
 | 0,_,_,_=>rfl
 | f+1,S,v,i=>by
  rw[SM.upGo]
  split
  ·have:=upGo_frame f (S.lay i (gn S.hl ((i-1)/2))) v ((i-1)/2)
   rw[this]
   rfl
  ·rfl
theorem put_frame (S:SM) (v:Nat):S.put v={ S with hl:=(S.put v).hl,place:=(S.put v).place }:=by
 unfold SM.put
 split
 ·exact upGo_frame _ _ _ _
 ·rfl
theorem undo_frame (S:SM) (l:Nat):S.undo l={ S with phase:=S.phase.set (l/2) (l % 2==0),value:=S.value.set (l/2) 0,reason:=S.reason.set (l/2) (-1),hl:=(S.undo l).hl,place:=(S.undo l).place }:=put_frame _ _
structure Undone (S T:SM):Prop where
 same:T={ S with phase:=T.phase,value:=T.value,reason:=T.reason,hl:=T.hl,place:=T.place }
 phase:T.phase.length=S.phase.length
 value:T.value.length=S.value.length
 reason:T.reason.length=S.reason.length
theorem Undone.refl (S:SM):Undone S S:=⟨rfl,rfl,rfl,rfl⟩
theorem undone_undo (S:SM) (l:Nat):Undone S (S.undo l):=by
 have h:=undo_frame S l
 refine⟨by rw[h],?_,?_,?_⟩ <;> rw[h] <;> simp
theorem Undone.trans {S T U:SM} (h:Undone S T) (k:Undone T U):Undone S U:=by
 refine⟨?_,k.phase.trans h.phase,k.value.trans h.value,k.reason.trans h.reason⟩
 have h1:=k.same
 rw[h.same] at h1
 exact h1
theorem undone_all (S:SM):∀ ls,Undone S (S.undoAll ls):=by
 intro ls
 induction ls generalizing S with
 | nil=>exact Undone.refl S
 | cons l r ih=>exact (undone_undo S l).trans (ih (S.undo l))
theorem undo_value (S:SM) (l:Nat):(S.undo l).value=S.value.set (l/2) 0:=put_value _ _
theorem HInv.undoAll {S:SM} (h:HInv S):∀ (ls:List Nat),(∀ l∈ls,l/2<S.value.length)→HInv (S.undoAll ls)∧(S.undoAll ls).value.length=S.value.length:=by
 intro ls
 induction ls generalizing S with
 | nil=>intro _;exact⟨h,rfl⟩
 | cons l r ih =>
  intro hl
  have h1:=h.undo (hl l (by simp))
  have h2:(S.undo l).value.length=S.value.length:=by rw[undo_value,List.length_set]
  have:=ih h1 fun x hx=>by rw[h2];exact hl x (by simp[hx])
  exact⟨this.1,this.2.trans h2⟩
theorem undoAll_snoc (S:SM) (ls:List Nat) (l:Nat):S.undoAll (ls++[l])=(S.undoAll ls).undo l:=by simp[SM.undoAll]
section
variable {B:Nat} {w0 w:World} {p:Nat} {M:MM} {F:HP}
set_option maxRecDepth 100000 in
set_option maxHeartbeats 2000000 in
theorem back_body (k:Nat) (h:At B w0 w p M F) (hh:HInv M.sv) (hz:Sz M.sv) (ht:∀ l∈M.trail.xs,l/2<M.value.xs.length) (htl:M.trail.xs.length≤1000000) (hel:M.ends.xs.length≤1000000) (he:k<M.ends.xs.length→gn M.ends.xs k≤M.trail.xs.length) (hk:k≤1000000) :
  BodyWp Tryz.prog 69 #[.pointer (some ⟨p,0,none⟩),.int .i64 k] w fun e w'=>e=.returned (.tuple #[]) ∧
   ∃ ph va re a b c tr en nx,At B w0 w' p (M.u_back ph va re a b c tr en nx) F∧MM.sv (M.u_back ph va re a b c tr en nx)=M.sv.back k:=by
 have HAT:=Lib.hid (at_any h)
 obtain⟨ne,hne⟩:∃ ne,M.ends.xs.length=ne:=⟨_,rfl⟩
 rw[hne] at HAT hel he
 have hbk:M.sv.back k=if ne≤k then M.sv else { M.sv.undoAll (M.trail.xs.drop (gn M.ends.xs k)) with trail:=M.trail.xs.take (gn M.ends.xs k),ends:=M.ends.xs.take k,next:=gn M.ends.xs k }:=by rw[←hne];rfl
 have H:=Lib.hid h
 by_cases hle:ne≤k
 ·have e1:decide ((ne:Int)≤(k:Int))=true:=by simpa using hle
  rw[if_pos hle] at hbk
  have HBK:=Lib.hid hbk
  clear h hh hz ht he hbk
  refine⟨_,_,Tryz.func69,rfl,?_⟩
  simp only[Tryz.ntmps69,List.size_toArray,List.length_cons,List.length_nil,Nat.reduceAdd,Nat.reduceSub,Array.replicate_succ,Array.replicate_zero,List.push_toArray,List.append_toArray,List.nil_append,List.cons_append]
  go_wp2_with fail
  refine HAT.out.mono ?_
  rintro e w' ⟨rfl,rfl⟩
  go_wp2
  refine bodyPost_ret (results_none rfl _ _ _) rfl ?_
  exact⟨rfl,_,_,_,_,_,_,_,_,_,H.out,HBK.out.symm⟩
 ·have e1:decide ((ne:Int)≤(k:Int))=false:=by simp;omega
  rw[if_neg hle] at hbk
  have hkn:k<ne:=by omega
  have hfr:=he hkn
  obtain⟨be,hbe⟩:=h.b_ends (by omega)
  obtain⟨d1,_⟩:=h.r_ends hbe (gn_some M.ends.xs k (by omega))
  have c1:=h.c_ends
  rw[hbe,hne] at c1
  have c2:=h.c_trail
  obtain⟨from_,hfrom⟩:∃ fr,gn M.ends.xs k=fr:=⟨_,rfl⟩
  rw[hfrom] at d1 hbk hfr
  simp only[Option.map_some,vN] at c1 d1
  obtain⟨nt,hnt⟩:∃ nt,M.trail.xs.length=nt:=⟨_,rfl⟩
  rw[hnt] at c2 hfr htl
  obtain⟨N,hN⟩:∃ N,M.value.xs.length=N:=⟨_,rfl⟩
  rw[hN] at ht
  obtain⟨ct,hct⟩:∃ ct,M.trail.c=ct:=⟨_,rfl⟩
  have hcap:nt≤ct:=by have:=h.t_trail.sat.sl_facts.2.1;omega
  rw[hct] at c2
  obtain⟨ls,hls⟩:∃ ls,M.trail.xs.drop from_=ls:=⟨_,rfl⟩
  have hlsl:ls.length=nt-from_:=by rw[←hls,List.length_drop,hnt]
  have hlsm:∀ l∈ls,l/2<N:=fun l hl=>ht l (by rw[←hls] at hl;exact List.mem_of_mem_drop hl)
  rw[hls] at hbk
  have HBK:=Lib.hid hbk
  have HHI:=Lib.hid (fun i=>hh.undoAll (ls.take i) (fun l hl=>by show _<M.value.xs.length;rw[hN];exact hlsm l (List.mem_of_mem_take hl)))
  have HZ:=Lib.hid hz
  have HLS:=Lib.hid hls
  have HLM:=Lib.hid hlsm
  have HLL:=Lib.hid hlsl
  have HNT:=Lib.hid hnt
  have HN:=Lib.hid hN
  have HNE:=Lib.hid hne
  have hNs:N≤100000:=by rw[←hN];exact hh.hb.small
  have k0:(0:Int)≤(k:Int):=by omega
  have k1:(k:Int)<(ne:Int):=by omega
  have f0:(0:Int)≤(from_:Int):=by omega
  have f1:(from_:Int)≤(nt:Int):=by omega
  have f2:(from_:Int)≤(ct:Int):=by omega
  have f3:(nt:Int)≤(ct:Int):=by omega
  obtain⟨ce,hce⟩:∃ ce,M.ends.c=ce:=⟨_,rfl⟩
  have hcec:ne≤ce:=by have:=h.t_ends.sat.sl_facts.2.1;omega
  rw[hce] at c1
  have HCE:=Lib.hid hce
  have HCT:=Lib.hid hct
  have HBE:=Lib.hid hbe
  have k2:(k:Int)≤(ce:Int):=by omega
  have HNZ:=Lib.hid (show M.trail.a=none→nt=0 from fun e=>by have:=(h.t_trail.sat.sl_facts.2.2.2.1 e).1;omega)
  have HX0:=Lib.hid (show ¬ ct=from_→∃ bt,M.trail.a=some bt from fun hne2=>by
   obtain⟨_,_,_,hnone,_⟩:=h.t_trail.sat.sl_facts
   cases e:M.trail.a with
   | none=>have:=(hnone e).2;omega
   | some bt=>exact⟨bt,rfl⟩)
  have hwk:IntKind.i64.wrap (k:Int)=(k:Int):=by rw[IntKind.wrap_i64];omega
  have hwf:IntKind.i64.wrap (from_:Int)=(from_:Int):=by rw[IntKind.wrap_i64];omega
  clear h hh hz ht he hbk hls hlsl hlsm hnt hN hne hct hbe hfrom hce
  by_cases hcf:ct=from_
  ·have hnf:nt=from_:=by omega
   have hls0:ls=[]:=List.eq_nil_of_length_eq_zero (by rw[HLL.out];omega)
   subst hls0
   subst hcf
   subst hnf
   cases hta:M.trail.a with
   | none =>
    have HTA:=Lib.hid hta
    rw[hta] at c2
    simp only[Option.map_none] at c2
    obtain rfl:nt=0:=HNZ.out hta
    clear hta
    refine⟨_,_,Tryz.func69,rfl,?_⟩
    simp only[Tryz.ntmps69,List.size_toArray,List.length_cons,List.length_nil,Nat.reduceAdd,Nat.reduceSub,Array.replicate_succ,Array.replicate_zero,List.push_toArray,List.append_toArray,List.nil_append,List.cons_append]
    go_wp2_with fail
    refine HAT.out.mono ?_
    rintro e w' ⟨rfl,rfl⟩
    go_wp2
    have c8:=H.out.c_ends
    have f7:=H.out.fz
    have f71:=f7 12
    have f72:=f7 13
    have f73:=f7 14
    have c9:=H.out.c_next
    clear f7 c8
    go_loopg [25] (0) (fun g s25 wr=>s25=.int .i64 0∧Hid (g=0)∧Hid (w=wr))
    case atStart=>exact⟨rfl,rfl,rfl⟩
    case round =>
     obtain⟨rfl,hg,HW⟩:=hrel
     obtain rfl:=HW.out
     clear HW
     go_wp2
     go_region
     go_wp2
     go_end0
     refine⟨rfl,M.phase,M.value,M.reason,M.hl,M.place,M.met,⟨M.trail.a,M.trail.c,M.trail.xs.take 0⟩,⟨M.ends.a,M.ends.c,M.ends.xs.take k⟩,0,?_,?_⟩
     ·have h1:=((H.out.cut_trail (n:=0) (by rw[HNT.out];exact Nat.le_refl _)).cut_ends (M:=M.u_trail ⟨M.trail.a,M.trail.c,M.trail.xs.take 0⟩) (n:=k) (by show k≤M.ends.xs.length;rw[HNE.out];omega)).put_next 0
      have h2:=h1.drewN 1
      rw[show M.trail.a=none from HTA.out,show M.trail.c=0 from HCT.out,show (M.u_trail ⟨none,0,M.trail.xs.take 0⟩).ends.a=some be from HBE.out,show (M.u_trail ⟨none,0,M.trail.xs.take 0⟩).ends.c=ce from HCE.out] at h2
      rw[show M.trail.a=none from HTA.out,show M.trail.c=0 from HCT.out,show M.ends.a=some be from HBE.out,show M.ends.c=ce from HCE.out]
      exact h2
     ·rw[HBK.out]
      rfl
   | some bt =>
    have HTA:=Lib.hid hta
    rw[hta] at c2
    simp only[Option.map_some] at c2
    clear hta
    refine⟨_,_,Tryz.func69,rfl,?_⟩
    simp only[Tryz.ntmps69,List.size_toArray,List.length_cons,List.length_nil,Nat.reduceAdd,Nat.reduceSub,Array.replicate_succ,Array.replicate_zero,List.push_toArray,List.append_toArray,List.nil_append,List.cons_append]
    go_wp2_with fail
    refine HAT.out.mono ?_
    rintro e w' ⟨rfl,rfl⟩
    go_wp2
    have c8:=H.out.c_ends
    have f7:=H.out.fz
    have f71:=f7 12
    have f72:=f7 13
    have f73:=f7 14
    have c9:=H.out.c_next
    clear f7 c8
    go_loopg [25] (0) (fun g s25 wr=>s25=.int .i64 0∧Hid (g=0)∧Hid (w=wr))
    case atStart=>exact⟨rfl,rfl,rfl⟩
    case round =>
     obtain⟨rfl,hg,HW⟩:=hrel
     obtain rfl:=HW.out
     clear HW
     go_wp2
     go_region
     go_wp2
     go_end0
     refine⟨rfl,M.phase,M.value,M.reason,M.hl,M.place,M.met,⟨M.trail.a,M.trail.c,M.trail.xs.take nt⟩,⟨M.ends.a,M.ends.c,M.ends.xs.take k⟩,nt,?_,?_⟩
     ·have h1:=((H.out.cut_trail (n:=nt) (by rw[HNT.out];exact Nat.le_refl _)).cut_ends (M:=M.u_trail ⟨M.trail.a,M.trail.c,M.trail.xs.take nt⟩) (n:=k) (by show k≤M.ends.xs.length;rw[HNE.out];omega)).put_next nt
      have h2:=h1.drewN 1
      rw[show M.trail.a=(some bt) from HTA.out,show M.trail.c=nt from HCT.out,show (M.u_trail ⟨(some bt),nt,M.trail.xs.take nt⟩).ends.a=some be from HBE.out,show (M.u_trail ⟨(some bt),nt,M.trail.xs.take nt⟩).ends.c=ce from HCE.out] at h2
      rw[show M.trail.a=(some bt) from HTA.out,show M.trail.c=nt from HCT.out,show M.ends.a=some be from HBE.out,show M.ends.c=ce from HCE.out]
      exact h2
     ·rw[HBK.out]
      rfl
  ·obtain⟨bt,hbt⟩:=HX0.out hcf
   rw[hbt] at c2
   simp only[Option.map_some] at c2
   have HBT:=Lib.hid hbt
   clear hbt
   refine⟨_,_,Tryz.func69,rfl,?_⟩
   simp only[Tryz.ntmps69,List.size_toArray,List.length_cons,List.length_nil,Nat.reduceAdd,Nat.reduceSub,Array.replicate_succ,Array.replicate_zero,List.push_toArray,List.append_toArray,List.nil_append,List.cons_append]
   go_wp2_with fail
   refine HAT.out.mono ?_
   rintro e w' ⟨rfl,rfl⟩
   go_wp2
   go_loopg [25] (nt-from_) (fun g s25 wr=>∃ (i:Nat) (ph:Fl Bool) (va re:Fl Int) (a b c:Fl Nat),s25=.int .i64 i∧i≤nt-from_∧Hid (g=nt-from_-i)∧Hid (At B w0 wr p (M.u_undo ph va re a b c) F)∧Hid (MM.sv (M.u_undo ph va re a b c)=M.sv.undoAll (ls.take i)))
   case atStart=>exact⟨0,M.phase,M.value,M.reason,M.hl,M.place,M.met,rfl,Nat.zero_le _,rfl,H.out,rfl⟩
   case round =>
    obtain⟨i,ph,va,re,a,b,c,rfl,hi,hg,H2,HS⟩:=hrel
    by_cases hin:i<nt-from_
    ·obtain⟨l,hl⟩:∃ l,gn ls i=l:=⟨_,rfl⟩
     have hln:l/2<N:=by rw[←hl];exact HLM.out _ (gn_mem _ _ (by rw[HLL.out];exact hin))
     have hget:M.trail.xs[from_+i]?=some l:=by
      have h1:(M.trail.xs.drop from_)[i]?=M.trail.xs[from_+i]?:=List.getElem?_drop
      rw[HLS.out] at h1
      rw[←h1,gn_some ls i (by rw[HLL.out];exact hin),hl]
     obtain⟨d2,_⟩:=H2.out.r_trail HBT.out hget
     obtain⟨v,hv⟩:∃ v,l/2=v:=⟨_,rfl⟩
     rw[hv] at hln
     have hval:va.xs.length=N:=by
      have h1:=congrArg (fun S:SM=>S.value.length) HS.out
      have h2:=(HHI.out i).2
      rw[←HN.out]
      exact h1.trans h2
     have hHI:=(HHI.out i).1
     rw[←HS.out] at hHI
     have HHI2:=Lib.hid hHI
     have HSZ:=Lib.hid (show ph.xs.length=N∧re.xs.length=N from by
      have hu:=undone_all M.sv (ls.take i)
      rw[←HS.out] at hu
      exact⟨hu.phase.trans (HZ.out.phase.trans HN.out),hu.reason.trans (HZ.out.reason.trans HN.out)⟩)
     obtain⟨bp,hbp⟩:=H2.out.b_phase (by show 0<ph.xs.length;rw[HSZ.out.1];omega)
     obtain⟨d3,d4⟩:=H2.out.r_phase hbp (gB_some ph.xs v (by rw[HSZ.out.1];exact hln))
     have c3:=H2.out.c_phase
     rw[hbp,show (M.u_undo ph va re a b c).phase.xs.length=N from HSZ.out.1] at c3
     simp only[Option.map_some,vL,vB] at c3 d2 d3
     have n1:¬ bp=p:=H2.out.n_phase hbp
     have hl2:l<1000000:=by omega
     have HV:=Lib.hid (fun (V:World)=>v_any l V hl2)
     rw[hv] at HV
     have hb:=bits_and1 l (by omega)
     obtain⟨q,hq⟩:∃ q,((l % 2:Nat)==0)=q:=⟨_,rfl⟩
     have hbq:(bits BinOp.and IntKind.u32 (l:Int) 1==0)=q:=by
      rw[hb,←hq]
      rcases Nat.mod_two_eq_zero_or_one l with e | e <;> rw[e] <;> rfl
     have HVV:=Lib.hid hval
     have i0:(0:Int)≤(i:Int):=by omega
     have v0:(0:Int)≤(v:Int):=by omega
     have v1:(v:Int)<(N:Int):=by omega
     have HQ:=Lib.hid hq
     have HVL:=Lib.hid hv
     have HLI:=Lib.hid hl
     clear hget hHI hval hb hq hv hl
     go_wp2
     go_still_tail 10,(by kernel_rfl)
     still_call ((HV.out _).mono fun e w' h=>⟨h.1,h.2.symm⟩)
     repeat still_step
     refine wpStill_nil ?_
     change wpList _ _ _ _ _ wr.drew
     go_wp2
     have h3:At B w0 (wr.setCell ⟨bp,v,none⟩ (.bool q)).drew p (M.u_undo ⟨ph.a,ph.c,ph.xs.set v q⟩ va re a b c) F:=(H2.out.set_phase hbp (by show v<ph.xs.length;rw[HSZ.out.1];exact hln) q).drewN 1
     clear c3 d2 d3 d4 hbp n1
     revert h3
     generalize (wr.setCell ⟨bp,v,none⟩ (.bool q)).drew=w1
     intro h3
     obtain⟨bv,hbv⟩:=h3.b_value (by show 0<va.xs.length;rw[HVV.out];omega)
     obtain⟨br,hbr⟩:=h3.b_reason (by show 0<re.xs.length;rw[HSZ.out.2];omega)
     obtain⟨d5,d6⟩:=h3.r_value hbv (i:=v) (gi_map_eq va.xs v (by rw[HVV.out];exact hln))
     obtain⟨d7,d8⟩:=h3.r_reason hbr (i:=v) (gi_map_eq re.xs v (by rw[HSZ.out.2];exact hln))
     have c5:=h3.c_value
     have c6:=h3.c_reason
     rw[hbv,show (M.u_undo ⟨ph.a,ph.c,ph.xs.set v q⟩ va re a b c).value.xs.length=N from HVV.out] at c5
     rw[hbr,show (M.u_undo ⟨ph.a,ph.c,ph.xs.set v q⟩ va re a b c).reason.xs.length=N from HSZ.out.2] at c6
     simp only[Option.map_some,v8,vI] at c5 c6 d5 d7
     have m1:¬ bv=br:=h3.ne2 (i:=1) (j:=3) rfl rfl (by decide) hbv hbr
     have m2:¬ br=bv:=fun e=>m1 e.symm
     have m3:¬ bv=p:=h3.n_value hbv
     have m4:¬ br=p:=h3.n_reason hbr
     have H3:=Lib.hid h3
     clear h3
     go_still_tail 13,(by kernel_rfl)
     still_call ((HV.out _).mono fun e w' h=>⟨h.1,h.2.symm⟩)
     repeat still_step
     still_call ((HV.out _).mono fun e w' h=>⟨h.1,h.2.symm⟩)
     repeat still_step
     refine wpStill_nil ?_
     change wpList _ _ _ _ _ w1.drew
     go_wp2
     have h4:At B w0 ((w1.setCell ⟨bv,v,none⟩ (.int .i8 0)).setCell ⟨br,v,none⟩ (.int .i64 (-1))).drew p (M.u_undo ⟨ph.a,ph.c,ph.xs.set v q⟩ ⟨va.a,va.c,va.xs.set v 0⟩ ⟨re.a,re.c,re.xs.set v (-1)⟩ a b c) F :=
      ((H3.out.set_value hbv (i:=v) (by show v<va.xs.length;rw[HVV.out];exact hln) 0).set_reason (M:=M.u_undo ⟨ph.a,ph.c,ph.xs.set v q⟩ ⟨va.a,va.c,va.xs.set v 0⟩ re a b c) hbr (i:=v) (by show v<re.xs.length;rw[HSZ.out.2];exact hln) (-1)).drewN 1
     clear c5 c6 d5 d6 d7 d8 hbv hbr m1 m2 m3 m4
     revert h4
     generalize ((w1.setCell ⟨bv,v,none⟩ (.int .i8 0)).setCell ⟨br,v,none⟩ (.int .i64 (-1))).drew=w2
     intro h4
     have HROOM:=Lib.hid (fun hz=>HHI2.out.room (v:=v) (by show v<va.xs.length;rw[HVV.out];exact hln) hz)
     have hb2:HB (MM.sv (M.u_undo ⟨ph.a,ph.c,ph.xs.set v q⟩ ⟨va.a,va.c,va.xs.set v 0⟩ ⟨re.a,re.c,re.xs.set v (-1)⟩ a b c)):=by
      have h9:=HHI2.out.hb
      have hlen:(va.xs.set v 0).length=va.xs.length:=by simp
      exact⟨by show (va.xs.set v 0).length≤_;rw[hlen];exact h9.small,fun x hx=>by show x<(va.xs.set v 0).length;rw[hlen];exact h9.vars x hx,by show _=(va.xs.set v 0).length;rw[hlen];exact h9.place,by show _=(va.xs.set v 0).length;rw[hlen];exact h9.met,by show _≤(va.xs.set v 0).length;rw[hlen];exact h9.hl⟩
     have HPUT:=Lib.hid (put_any v (h4.drewN 1) hb2 (by show v<(va.xs.set v 0).length;rw[List.length_set,HVV.out];exact hln) (fun hz=>by show a.xs.length<(va.xs.set v 0).length;rw[List.length_set];exact HROOM.out hz))
     have HUN:=Lib.hid (show (MM.sv (M.u_undo ⟨ph.a,ph.c,ph.xs.set v q⟩ ⟨va.a,va.c,va.xs.set v 0⟩ ⟨re.a,re.c,re.xs.set v (-1)⟩ a b c)).put v=M.sv.undoAll (ls.take (i+1)) by
      have h1:ls.take (i+1)=ls.take i++[l]:=by rw[List.take_succ_eq_append_getElem (by rw[HLL.out];exact hin),←gn_eq,HLI.out]
      rw[h1,undoAll_snoc,←HS.out,←HQ.out,←HVL.out]
      rfl)
     clear hb2 h4
     go_still_tail 5,(by kernel_rfl)
     still_call ((HV.out _).mono fun e w' h=>⟨h.1,h.2.symm⟩)
     repeat still_step
     refine wpStill_nil ?_
     change wpList _ _ _ _ _ w2.drew
     go_wp2_with fail
     refine HPUT.out.mono ?_
     rintro e w5 ⟨rfl,a2,b2,c2',h5,h6⟩
     have H5:=Lib.hid h5
     have H6:=Lib.hid (h6.trans HUN.out)
     clear h5 h6 HPUT
     go_wp2
     go_roundg (nt-from_-(i+1))
     case measure=>have:=hg.out;omega
     case rel=>exact⟨i+1,_,_,_,a2,b2,c2',by go_num,by omega,rfl,H5.out,H6.out⟩
    ·obtain rfl:i=nt-from_:=by omega
     have hs1:=HS.out
     rw[List.take_of_length_le (by rw[HLL.out];exact Nat.le_refl _)] at hs1
     have HS1:=Lib.hid hs1
     have c7:=H2.out.c_trail
     have c8:=H2.out.c_ends
     have f7:=H2.out.fz
     rw[show (M.u_undo ph va re a b c).trail.a=some bt from HBT.out,show (M.u_undo ph va re a b c).trail.xs.length=nt from HNT.out,show (M.u_undo ph va re a b c).trail.c=ct from HCT.out] at c7
     rw[show (M.u_undo ph va re a b c).ends.a=some be from HBE.out,show (M.u_undo ph va re a b c).ends.xs.length=ne from HNE.out,show (M.u_undo ph va re a b c).ends.c=ce from HCE.out] at c8
     simp only[Option.map_some] at c7 c8
     have f71:=f7 12
     have f72:=f7 13
     have f73:=f7 14
     have c9:=H2.out.c_next
     clear hs1 f7
     go_wp2
     go_region
     go_wp2
     go_end0
     refine⟨rfl,ph,va,re,a,b,c,⟨M.trail.a,M.trail.c,M.trail.xs.take from_⟩,⟨M.ends.a,M.ends.c,M.ends.xs.take k⟩,from_,?_,?_⟩
     ·have h1:=((H2.out.cut_trail (n:=from_) (by show from_≤M.trail.xs.length;rw[HNT.out];exact hfr)).cut_ends (M:=(M.u_undo ph va re a b c).u_trail ⟨M.trail.a,M.trail.c,M.trail.xs.take from_⟩) (n:=k) (by show k≤M.ends.xs.length;rw[HNE.out];omega)).put_next from_
      have h2:=h1.drewN 1
      rw[show (M.u_undo ph va re a b c).trail.a=some bt from HBT.out,show (M.u_undo ph va re a b c).trail.c=ct from HCT.out,show ((M.u_undo ph va re a b c).u_trail ⟨M.trail.a,M.trail.c,M.trail.xs.take from_⟩).ends.a=some be from HBE.out,show ((M.u_undo ph va re a b c).u_trail ⟨M.trail.a,M.trail.c,M.trail.xs.take from_⟩).ends.c=ce from HCE.out] at h2
      rw[show M.trail.a=some bt from HBT.out,show M.trail.c=ct from HCT.out,show M.ends.a=some be from HBE.out,show M.ends.c=ce from HCE.out]
      exact h2
     ·rw[HBK.out,←HS1.out]
      rfl
theorem back_any (k:Nat) (h:At B w0 w p M F) (hh:HInv M.sv) (hz:Sz M.sv) (ht:∀ l∈M.trail.xs,l/2<M.value.xs.length) (htl:M.trail.xs.length≤1000000) (hel:M.ends.xs.length≤1000000) (he:k<M.ends.xs.length→gn M.ends.xs k≤M.trail.xs.length) (hk:k≤1000000) :
  Calls Tryz.prog 69 #[.pointer (some ⟨p,0,none⟩),.int .i64 k] w fun e w'=>e=.returned (.tuple #[]) ∧
   ∃ ph va re a b c tr en nx,At B w0 w' p (M.u_back ph va re a b c tr en nx) F∧MM.sv (M.u_back ph va re a b c tr en nx)=M.sv.back k:=(back_body k h hh hz ht htl hel he hk).calls
theorem back_defer (k:Nat) (h:At B w0 w p M F) (hh:HInv M.sv) (hz:Sz M.sv) (ht:∀ l∈M.trail.xs,l/2<M.value.xs.length) (htl:M.trail.xs.length≤1000000) (hel:M.ends.xs.length≤1000000) (he:k<M.ends.xs.length→gn M.ends.xs k≤M.trail.xs.length) (hk:k≤1000000) (u:FrameMode) :
  CallsD Tryz.prog 69 #[.pointer (some ⟨p,0,none⟩),.int .i64 k] u w fun e u' w'=>u'=u∧e=.returned (.tuple #[]) ∧
   ∃ ph va re a b c tr en nx,At B w0 w' p (M.u_back ph va re a b c tr en nx) F∧MM.sv (M.u_back ph va re a b c tr en nx)=M.sv.back k:=(back_body k h hh hz ht htl hel he hk).deferred u
end
end Go.Proofs.YthbbmdnfkkffjaaGreat
namespace Go.Proofs.PlaitSep
open Go
section
variable {P:Program} {ops:Array Oper} {Q:Exit→Act→World→Prop} {md:Region.Mode} {S:World→Prop} {z:Nat}
def AnyE (P:Program) (md:Region.Mode) (ops:Array Oper) (Q:Exit→Act→World→Prop) (S:World→Prop) (z:Nat):Nat→Array Bool→Act→World→Prop
 | 0,listed,a,w=>Region.ready md ops listed=[]∧Q .normal a w
 | n+1,listed,a,w =>
  (Region.ready md ops listed=[]→Q .normal a w) ∧
   ∀ j∈Region.ready md ops listed,wpOp P ops Q j (fun b V=>(j=z∧wpAny P md ops Q n (listed.setIfInBounds j true) b V)∨(S V∧AnyE P md ops Q S z n (listed.setIfInBounds j true) b V)) a w
theorem any_of_E:∀ (n:Nat) (listed:Array Bool) (a:Act) (w:World),AnyE P md ops Q S z n listed a w→wpAny P md ops Q n listed a w
 | 0,_,_,_,h=>h
 | n+1,_,_,_,h=>⟨h.1,fun j hj=>wpOp_mono (fun b V k=>k.elim (·.2) fun k=>any_of_E n _ b V k.2) (h.2 j hj)⟩
def waitsB (md:Region.Mode) (ops:Array Oper) (z i:Nat):Bool:=match ops[z]? with
 | some o=>o.after.any fun e=>Region.binds md e&&e.on==i
 | none=>false
theorem waits_not_ready {i:Nat} {listed:Array Bool} (h:waitsB md ops z i=true) (hr:i∈Region.ready md ops listed):z∉Region.ready md ops listed:=fun hz=>by
 obtain⟨hun,_⟩:=mem_ready.1 hr
 obtain⟨_,o,ho,hall⟩:=mem_ready.1 hz
 unfold waitsB at h
 rw[ho] at h
 obtain⟨e,he,hb⟩:=Array.any_eq_true'.1 h
 simp only[Bool.and_eq_true,beq_iff_eq] at hb
 have h1:=hall e he hb.1
 rw[hb.2] at h1
 rcases Nat.lt_or_ge i listed.size with h' | h'
 ·simp[h'] at hun h1;rw[hun] at h1;cases h1
 ·simp[Array.getElem?_eq_none h'] at h1
theorem E_first {i:Nat} {oi:Oper} {v:Value} (hz:waitsB md ops z i=true) (hi:ops[i]?=some oi) (hsel:∀ (j:Nat) (o:Oper) cs b,ops[j]?=some o→o.op≠.select cs b)
  (hQ:∀ c a w,Q (.panic c) (a.put oi.dst v) w→Q (.panic c) a w) :
  ∀ (n:Nat) (listed:Array Bool) (a:Act) (w:World),
   (∀ j oj,ops[j]?=some oj→j≠i→listed.getD j true=false→(∀ e∈oj.after,Region.binds md e=true→e.on≠i)→oi.apart ops oj=true) →
   i∈Region.ready md ops listed→YieldsIf P ops S oi v a→S w →
   AnyE P md ops Q S z n (listed.setIfInBounds i true) (a.put oi.dst v) w→AnyE P md ops Q S z (n+1) listed a w:=by
 intro n
 induction n with
 | zero =>
  intro listed a w _ hr hy hS H
  constructor
  ·intro h;rw[h] at hr;cases hr
  ·intro j hj
   by_cases e:j=i
   ·rw[e];exact hy.wpOp hi hS (Or.inr ⟨hS,H⟩)
   ·have k:=ready_mono hj e
    rw[H.1] at k
    cases k
 | succ n ih =>
  intro listed a w hfree hr hy hS H
  constructor
  ·intro h;rw[h] at hr;cases hr
  ·intro j hj
   by_cases e:j=i
   ·rw[e];exact hy.wpOp hi hS (Or.inr ⟨hS,H⟩)
   ·have hjz:j≠z:=fun h=>waits_not_ready hz hr (h▸hj)
    have k1:=H.2 j (ready_mono hj e)
    obtain⟨un,oj,hoj,hall⟩:=mem_ready.1 hj
    have no:∀ x∈oj.after,Region.binds md x=true→x.on≠i:=fun x hx hb h=>by
     have h1:=hall x hx hb
     have h0:=(mem_ready.1 hr).1
     rw[h] at h1
     rcases Nat.lt_or_ge i listed.size with h' | h'
     ·simp[h'] at h0 h1;rw[h0] at h1;cases h1
     ·simp[Array.getElem?_eq_none h'] at h1
    have k2:=wpOp_putIf hoj (hfree j oj hoj e un no) (fun cs b=>hsel i oi cs b hi) (fun cs b=>hsel j oj cs b hoj) hQ hy k1
    have fr:∀ m om,ops[m]?=some om→m≠i→(listed.setIfInBounds j true).getD m true=false→(∀ x∈om.after,Region.binds md x=true→x.on≠i)→oi.apart ops om=true:=fun m om hm hmi hun hno=>by
     refine hfree m om hm hmi ?_ hno
     by_cases q:j=m
     ·rw[←q];exact un
     ·rwa [getD_set_ne true q] at hun
    refine wpOp_mono (fun b V k3=>?_) k2
    have hSV:=k3.2.resolve_left fun h=>hjz h.1
    refine Or.inr ⟨hSV.1,ih (listed.setIfInBounds j true) b V fr (ready_mono hr (Ne.symm e)) k3.1 hSV.1 ?_⟩
    rw[Array.setIfInBounds_comm _ _ e]
    exact hSV.2
theorem E_take {i:Nat} {oi:Oper} {v:Value} {n:Nat} {listed:Array Bool} {a:Act} {w:World} (hi:ops[i]?=some oi) (hz:waitsB md ops z i=true)
  (hs:Region.noSelect ops=true) (hf:Region.free md ops listed i=true) (hr:(Region.ready md ops listed).contains i=true)
  (hQ:∀ c a w,Q (.panic c) (a.put oi.dst v) w→Q (.panic c) a w) (hw:Region.wanted oi (yielded ops a.tmps)=true) (hy:∀ w,S w→(execOp a.eval oi).run P w=.ok (.value v) w) (hS:S w)
  (h:AnyE P md ops Q S z n (listed.setIfInBounds i true) (a.put oi.dst v) w):AnyE P md ops Q S z (n+1) listed a w :=
 E_first hz hi (Region.noSelect_spec hs) hQ n listed a w (Region.free_spec hi hf) (by simpa using hr) (Or.inl ⟨hw,hy⟩) hS h
theorem E_takeL {l:List Oper} {i:Nat} {oi:Oper} {v:Value} {n:Nat} {listed:Array Bool} {a:Act} {w:World} (hi:l[i]?=some oi) (hz:waitsB md l.toArray z i=true)
  (hs:Region.noSelect l.toArray=true) (hf:Region.free md l.toArray listed i=true) (hr:(Region.ready md l.toArray listed).contains i=true)
  (hQ:∀ c a w,Q (.panic c) (a.put oi.dst v) w→Q (.panic c) a w) (hw:Region.wanted oi (yielded l.toArray a.tmps)=true) (hy:∀ w,S w→(execOp a.eval oi).run P w=.ok (.value v) w) (hS:S w)
  (h:AnyE P md l.toArray Q S z n (listed.setIfInBounds i true) (a.put oi.dst v) w):AnyE P md l.toArray Q S z (n+1) listed a w :=
 E_take (by simpa using hi) hz hs hf hr hQ hw hy hS h
theorem E_onlyL {l:List Oper} {i:Nat} {o:Oper} {n:Nat} {listed:Array Bool} {a:Act} {w:World} (hr:Region.ready md l.toArray listed=[i]) (hi:l[i]?=some o)
  (h:∀ K:Act→World→Prop,(∀ b V,S V→AnyE P md l.toArray Q S z n (listed.setIfInBounds i true) b V→K b V)→if Region.wanted o (yielded l.toArray a.tmps)=true then Oper.wp P o a w K Q else K (a.put o.dst undef) w) :
  AnyE P md l.toArray Q S z (n+1) listed a w:=by
 constructor
 ·intro h0;rw[hr] at h0;cases h0
 ·intro j hj
  rw[hr,List.mem_singleton] at hj
  subst hj
  exact wpOp_step (by simpa using hi) fun K hK=>h K fun b V hS hA=>hK b V (Or.inr ⟨hS,hA⟩)
theorem E_zL {l:List Oper} {o:Oper} {n:Nat} {listed:Array Bool} {a:Act} {w:World} (hr:Region.ready md l.toArray listed=[z]) (hi:l[z]?=some o)
  (h:∀ K:Act→World→Prop,(∀ b V,wpAny P md l.toArray Q n (listed.setIfInBounds z true) b V→K b V)→if Region.wanted o (yielded l.toArray a.tmps)=true then Oper.wp P o a w K Q else K (a.put o.dst undef) w) :
  AnyE P md l.toArray Q S z (n+1) listed a w:=by
 constructor
 ·intro h0;rw[hr] at h0;cases h0
 ·intro j hj
  rw[hr,List.mem_singleton] at hj
  subst hj
  exact wpOp_step (by simpa using hi) fun K hK=>h K fun b V hq=>hK b V (Or.inl ⟨rfl,hq⟩)
theorem E_lastL {l:List Oper} {o:Oper} {n:Nat} {listed:Array Bool} {a:Act} {w:World} (hr:Region.ready md l.toArray listed=[z]) (hi:l[z]?=some o) (hd:Region.ready md l.toArray (listed.setIfInBounds z true)=[])
  (h:∀ K:Act→World→Prop,(∀ b V,Q .normal b V→K b V)→if Region.wanted o (yielded l.toArray a.tmps)=true then Oper.wp P o a w K Q else K (a.put o.dst undef) w) :
  AnyE P md l.toArray Q S z (n+1) listed a w :=
 E_zL hr hi fun K hK=>h K fun b V hq=>hK b V (by
  cases n with
  | zero=>exact⟨hd,hq⟩
  | succ n=>exact⟨fun _=>hq,by rw[hd];simp⟩)
theorem any_onlyL {l:List Oper} {i:Nat} {o:Oper} {n:Nat} {listed:Array Bool} {a:Act} {w:World} (hr:Region.ready md l.toArray listed=[i]) (hi:l[i]?=some o)
  (h:∀ K:Act→World→Prop,(∀ b V,wpAny P md l.toArray Q n (listed.setIfInBounds i true) b V→K b V)→if Region.wanted o (yielded l.toArray a.tmps)=true then Oper.wp P o a w K Q else K (a.put o.dst undef) w) :
  wpAny P md l.toArray Q (n+1) listed a w:=by
 constructor
 ·intro h0;rw[hr] at h0;cases h0
 ·intro j hj
  rw[hr,List.mem_singleton] at hj
  subst hj
  exact wpOp_step (by simpa using hi) fun K hK=>h K fun b V hq=>hK b V hq
theorem any_lastL {l:List Oper} {i:Nat} {o:Oper} {n:Nat} {listed:Array Bool} {a:Act} {w:World} (hr:Region.ready md l.toArray listed=[i]) (hi:l[i]?=some o) (hd:Region.ready md l.toArray (listed.setIfInBounds i true)=[])
  (h:∀ K:Act→World→Prop,(∀ b V,Q .normal b V→K b V)→if Region.wanted o (yielded l.toArray a.tmps)=true then Oper.wp P o a w K Q else K (a.put o.dst undef) w) :
  wpAny P md l.toArray Q (n+1) listed a w :=
 any_onlyL hr hi fun K hK=>h K fun b V hq=>hK b V (by
  cases n with
  | zero=>exact⟨hd,hq⟩
  | succ n=>exact⟨fun _=>hq,by rw[hd];simp⟩)
theorem wp_region_E {id:Nat} {a:Act} {w:World} (z:Nat) (S:World→Prop) (hm:P.follows .mixedOrders=true)
  (h:AnyE P .any ops Q S z ops.size (Array.replicate ops.size false) a w.drew):(Code.region id ops true).wp P Q a w :=
 wp_region_any hm (any_of_E _ _ _ _ h)
end
end Go.Proofs.PlaitSep

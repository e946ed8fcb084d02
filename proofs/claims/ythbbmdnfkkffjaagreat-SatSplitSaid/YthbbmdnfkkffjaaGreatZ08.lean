/-
  Parts of the proof, joined by program: Grow.
-/
import Derived.Test.YthbbmdnfkkffjaaGreatZ05
import Derived.Test.YthbbmdnfkkffjaaGreatZ07
import Derived.Deep.CutBlock
import Derived.StillTailTactics
namespace Go.Proofs.YthbbmdnfkkffjaaGreat
open Go.RowKit Go.Proofs.PlaitSep Go.Proofs.PlaitPure Go.Proofs.PlaitSat
theorem Tryz.infoI8:(Tryz.prog.info? 114).map (fun i=>(i.zero,i.size,i.bytes))=some (some (.int .i8 0),1,1):=by kernel_rfl
theorem Tryz.infoBool:(Tryz.prog.info? 4).map (fun i=>(i.zero,i.size,i.bytes))=some (some (.bool false),1,1):=by kernel_rfl
theorem Tryz.infoRow:(Tryz.prog.info? 27).map (fun i=>(i.zero,i.size,i.bytes))=some (some (.slice none 0 0),1,24):=by kernel_rfl
theorem cell_two (w:World) (v:Value) (e:TypeId) (j:Nat) (u:Value) (h:[v,v][j]?=some u):(w.alloc (.cells #[v,v] e)).cell? ((⟨w.heap.size,0,none⟩:Addr).add j)=some u:=by
 have h1:(⟨w.heap.size,0,none⟩:Addr).add j=⟨w.heap.size,j,none⟩:=by unfold Addr.add;split <;> simp_all
 rw[h1,cell_of_row _ _ _ _ _ _ (heap_alloc_new w _)]
 simpa using h
def more0 (S:SM):SM:={ S with value:=S.value++[0],level:=S.level++[0],reason:=S.reason++[-1],phase:=S.phase++[false],occurs:=S.occurs++[false],watches:=S.watches++[[],[]],units:=S.units++[-1] }
def more1 (S:SM):SM:={ more0 S with place:=S.place++[0],met:=S.met++[0] }
theorem more_eq (S:SM):S.more=if S.value.length=0 then more1 S else (more1 S).put S.value.length:=rfl
structure GrOk (S:SM):Prop where
 value:S.value.length≤90000
 level:S.level.length≤90000
 reason:S.reason.length≤90000
 phase:S.phase.length≤90000
 occurs:S.occurs.length≤90000
 watches:S.watches.length≤900000
 units:S.units.length≤90000
 place:S.place.length≤90000
 met:S.met.length≤90000
 hb:0<S.value.length→HB (more1 S)∧S.hl.length<S.value.length+1
def growOk:Nat→SM→Prop
 | 0,_=>True
 | f+1,S=>GrOk S∧growOk f S.more
section
variable {B:Nat} {w0 w:World} {p:Nat} {M:MM} {F:HP}
set_option maxRecDepth 100000 in
set_option maxHeartbeats 4000000 in
theorem grow_any (v:Nat) (h:At B w0 w p M F) (hok:growOk (v+1-M.value.xs.length) M.sv) (_hv:v≤100000) :
  Calls Tryz.prog 61 #[.pointer (some ⟨p,0,none⟩),.int .i64 v] w fun e w'=>e=.returned (.tuple #[])∧∃ M',At B w0 w' p M' F∧M'.sv=M.sv.grow v:=by
 have H:=Lib.hid h
 have HOK:=Lib.hid hok
 clear h hok
 go_enter Tryz.func61,Tryz.ntmps61
 go_wp2
 go_loopg [] (v+1-M.value.xs.length) (fun g wr=>∃ N:MM,Hid (At B w0 wr p N F)∧Hid (SM.growGo g N.sv=M.sv.grow v)∧Hid (growOk g N.sv)∧Hid (g=v+1-N.value.xs.length))
 case atStart=>exact⟨M,H,rfl,HOK,rfl⟩
 case round =>
  obtain⟨N,H0,HG,HO,HE⟩:=hrel
  obtain⟨n,hn⟩:∃ n,N.value.xs.length=n:=⟨_,rfl⟩
  have c0:=H0.out.c_value
  rw[hn] at c0
  have hge:=HE.out
  rw[hn] at hge
  have HN:=Lib.hid hn
  clear hn
  by_cases hle:n≤v
  ·have e1:decide ((n:Int)≤(v:Int))=true:=by simp;omega
   obtain⟨g,rfl⟩:∃ g,gk=g+1:=⟨v-n,by omega⟩
   have HGR:=Lib.hid HO.out.1
   have HO2:=Lib.hid HO.out.2
   have HE2:=Lib.hid (show g=v+1-(n+1) by omega)
   clear hge HE HO
   go_upto_region 1 with fail
   clear c0
   obtain⟨n0,hn0⟩:∃ n,N.value.xs.length=n:=⟨_,rfl⟩
   have hb0:n0≤900000:=by rw[←hn0];have h2:N.value.xs.length≤90000:=HGR.out.value;show N.value.xs.length≤_;omega
   have c0:=H0.out.c_value
   have t0:=H0.out.t_value
   rw[hn0] at c0 t0
   have HT0:=Lib.hid t0
   have HN0:=Lib.hid hn0
   clear hn0 t0
   go_upto_region 2 with (at_builtin;refine wpList_append1 rfl _ _ 83 114 (.int .i8 0) 1 rfl Tryz.underlying83 Tryz.infoI8 rfl HT0.out rfl (.int .i8 0) rfl rfl (by omega) (by simp only[maxLen];omega) ?_;intro b0 c0' v0 hs;have h6:=At.push_value (M:=N) (x:=(0:Int)) H0.out.lastN HN0.out hs;have H6:=Lib.hid h6;clear hs h6;obtain⟨c7,f7⟩:=H6.out.1)
   have h1:=H6.out.2
   clear H6 c7 f7 c0 HT0
   revert h1
   generalize v0.setCell ⟨p,7,none⟩ (.slice (some ⟨b0,0,none⟩) (n0+1) c0')=w1
   intro h1
   have H1:=Lib.hid h1
   clear h1
   obtain⟨n1,hn1⟩:∃ n,(N.u_value ⟨some b0,c0',N.value.xs++[(0:Int)]⟩).level.xs.length=n:=⟨_,rfl⟩
   have hb1:n1≤900000:=by rw[←hn1];have h2:N.level.xs.length≤90000:=HGR.out.level;show N.level.xs.length≤_;omega
   have c1:=H1.out.c_level
   have t1:=H1.out.t_level
   rw[hn1] at c1 t1
   have HT1:=Lib.hid t1
   have HN1:=Lib.hid hn1
   clear hn1 t1
   go_upto_region 3 with (at_builtin;refine wpList_append1 rfl _ _ 27 3 (.int .i64 0) 8 rfl Tryz.underlying27 Tryz.infoIntS rfl HT1.out rfl (.int .i64 0) rfl rfl (by omega) (by simp only[maxLen];omega) ?_;intro b1 c1' v1 hs;have h6:=At.push_level (M:=(N.u_value ⟨some b0,c0',N.value.xs++[(0:Int)]⟩)) (x:=(0:Nat)) H1.out.lastN HN1.out hs;have H6:=Lib.hid h6;clear hs h6;obtain⟨c7,f7⟩:=H6.out.1)
   have h2:=H6.out.2
   clear H6 c7 f7 c1 HT1
   revert h2
   generalize v1.setCell ⟨p,8,none⟩ (.slice (some ⟨b1,0,none⟩) (n1+1) c1')=w2
   intro h2
   have H2:=Lib.hid h2
   clear h2
   obtain⟨n2,hn2⟩:∃ n,((N.u_value ⟨some b0,c0',N.value.xs++[(0:Int)]⟩).u_level ⟨some b1,c1',(N.u_value ⟨some b0,c0',N.value.xs++[(0:Int)]⟩).level.xs++[(0:Nat)]⟩).reason.xs.length=n:=⟨_,rfl⟩
   have hb2:n2≤900000:=by rw[←hn2];have h2:N.reason.xs.length≤90000:=HGR.out.reason;show N.reason.xs.length≤_;omega
   have c2:=H2.out.c_reason
   have t2:=H2.out.t_reason
   rw[hn2] at c2 t2
   have HT2:=Lib.hid t2
   have HN2:=Lib.hid hn2
   clear hn2 t2
   go_upto_region 4 with (at_builtin;refine wpList_append1 rfl _ _ 27 3 (.int .i64 0) 8 rfl Tryz.underlying27 Tryz.infoIntS rfl HT2.out rfl (.int .i64 (-1)) rfl rfl (by omega) (by simp only[maxLen];omega) ?_;intro b2 c2' v2 hs;have h6:=At.push_reason (M:=((N.u_value ⟨some b0,c0',N.value.xs++[(0:Int)]⟩).u_level ⟨some b1,c1',(N.u_value ⟨some b0,c0',N.value.xs++[(0:Int)]⟩).level.xs++[(0:Nat)]⟩)) (x:=(-1:Int)) H2.out.lastN HN2.out hs;have H6:=Lib.hid h6;clear hs h6;obtain⟨c7,f7⟩:=H6.out.1)
   have h3:=H6.out.2
   clear H6 c7 f7 c2 HT2
   revert h3
   generalize v2.setCell ⟨p,9,none⟩ (.slice (some ⟨b2,0,none⟩) (n2+1) c2')=w3
   intro h3
   have H3:=Lib.hid h3
   clear h3
   obtain⟨n3,hn3⟩:∃ n,(((N.u_value ⟨some b0,c0',N.value.xs++[(0:Int)]⟩).u_level ⟨some b1,c1',(N.u_value ⟨some b0,c0',N.value.xs++[(0:Int)]⟩).level.xs++[(0:Nat)]⟩).u_reason ⟨some b2,c2',((N.u_value ⟨some b0,c0',N.value.xs++[(0:Int)]⟩).u_level ⟨some b1,c1',(N.u_value ⟨some b0,c0',N.value.xs++[(0:Int)]⟩).level.xs++[(0:Nat)]⟩).reason.xs++[(-1:Int)]⟩).phase.xs.length=n:=⟨_,rfl⟩
   have hb3:n3≤900000:=by rw[←hn3];have h2:N.phase.xs.length≤90000:=HGR.out.phase;show N.phase.xs.length≤_;omega
   have c3:=H3.out.c_phase
   have t3:=H3.out.t_phase
   rw[hn3] at c3 t3
   have HT3:=Lib.hid t3
   have HN3:=Lib.hid hn3
   clear hn3 t3
   go_upto_region 5 with (at_builtin;refine wpList_append1 rfl _ _ 84 4 (.bool false) 1 rfl Tryz.underlying84 Tryz.infoBool rfl HT3.out rfl (.bool false) rfl rfl (by omega) (by simp only[maxLen];omega) ?_;intro b3 c3' v3 hs;have h6:=At.push_phase (M:=(((N.u_value ⟨some b0,c0',N.value.xs++[(0:Int)]⟩).u_level ⟨some b1,c1',(N.u_value ⟨some b0,c0',N.value.xs++[(0:Int)]⟩).level.xs++[(0:Nat)]⟩).u_reason ⟨some b2,c2',((N.u_value ⟨some b0,c0',N.value.xs++[(0:Int)]⟩).u_level ⟨some b1,c1',(N.u_value ⟨some b0,c0',N.value.xs++[(0:Int)]⟩).level.xs++[(0:Nat)]⟩).reason.xs++[(-1:Int)]⟩)) (x:=false) H3.out.lastN HN3.out hs;have H6:=Lib.hid h6;clear hs h6;obtain⟨c7,f7⟩:=H6.out.1)
   have h4:=H6.out.2
   clear H6 c7 f7 c3 HT3
   revert h4
   generalize v3.setCell ⟨p,10,none⟩ (.slice (some ⟨b3,0,none⟩) (n3+1) c3')=w4
   intro h4
   have H4:=Lib.hid h4
   clear h4
   obtain⟨n4,hn4⟩:∃ n,((((N.u_value ⟨some b0,c0',N.value.xs++[(0:Int)]⟩).u_level ⟨some b1,c1',(N.u_value ⟨some b0,c0',N.value.xs++[(0:Int)]⟩).level.xs++[(0:Nat)]⟩).u_reason ⟨some b2,c2',((N.u_value ⟨some b0,c0',N.value.xs++[(0:Int)]⟩).u_level ⟨some b1,c1',(N.u_value ⟨some b0,c0',N.value.xs++[(0:Int)]⟩).level.xs++[(0:Nat)]⟩).reason.xs++[(-1:Int)]⟩).u_phase ⟨some b3,c3',(((N.u_value ⟨some b0,c0',N.value.xs++[(0:Int)]⟩).u_level ⟨some b1,c1',(N.u_value ⟨some b0,c0',N.value.xs++[(0:Int)]⟩).level.xs++[(0:Nat)]⟩).u_reason ⟨some b2,c2',((N.u_value ⟨some b0,c0',N.value.xs++[(0:Int)]⟩).u_level ⟨some b1,c1',(N.u_value ⟨some b0,c0',N.value.xs++[(0:Int)]⟩).level.xs++[(0:Nat)]⟩).reason.xs++[(-1:Int)]⟩).phase.xs++[false]⟩).occurs.xs.length=n:=⟨_,rfl⟩
   have hb4:n4≤900000:=by rw[←hn4];have h2:N.occurs.xs.length≤90000:=HGR.out.occurs;show N.occurs.xs.length≤_;omega
   have c4:=H4.out.c_occurs
   have t4:=H4.out.t_occurs
   rw[hn4] at c4 t4
   have HT4:=Lib.hid t4
   have HN4:=Lib.hid hn4
   clear hn4 t4
   go_upto_region 6 with (at_builtin;refine wpList_append1 rfl _ _ 84 4 (.bool false) 1 rfl Tryz.underlying84 Tryz.infoBool rfl HT4.out rfl (.bool false) rfl rfl (by omega) (by simp only[maxLen];omega) ?_;intro b4 c4' v4 hs;have h6:=At.push_occurs (M:=((((N.u_value ⟨some b0,c0',N.value.xs++[(0:Int)]⟩).u_level ⟨some b1,c1',(N.u_value ⟨some b0,c0',N.value.xs++[(0:Int)]⟩).level.xs++[(0:Nat)]⟩).u_reason ⟨some b2,c2',((N.u_value ⟨some b0,c0',N.value.xs++[(0:Int)]⟩).u_level ⟨some b1,c1',(N.u_value ⟨some b0,c0',N.value.xs++[(0:Int)]⟩).level.xs++[(0:Nat)]⟩).reason.xs++[(-1:Int)]⟩).u_phase ⟨some b3,c3',(((N.u_value ⟨some b0,c0',N.value.xs++[(0:Int)]⟩).u_level ⟨some b1,c1',(N.u_value ⟨some b0,c0',N.value.xs++[(0:Int)]⟩).level.xs++[(0:Nat)]⟩).u_reason ⟨some b2,c2',((N.u_value ⟨some b0,c0',N.value.xs++[(0:Int)]⟩).u_level ⟨some b1,c1',(N.u_value ⟨some b0,c0',N.value.xs++[(0:Int)]⟩).level.xs++[(0:Nat)]⟩).reason.xs++[(-1:Int)]⟩).phase.xs++[false]⟩)) (x:=false) H4.out.lastN HN4.out hs;have H6:=Lib.hid h6;clear hs h6;obtain⟨c7,f7⟩:=H6.out.1)
   have h5:=H6.out.2
   clear H6 c7 f7 c4 HT4
   revert h5
   generalize v4.setCell ⟨p,11,none⟩ (.slice (some ⟨b4,0,none⟩) (n4+1) c4')=w5
   intro h5
   have H5:=Lib.hid h5
   clear h5
   obtain⟨n5,hn5⟩:∃ n,(((((N.u_value ⟨some b0,c0',N.value.xs++[(0:Int)]⟩).u_level ⟨some b1,c1',(N.u_value ⟨some b0,c0',N.value.xs++[(0:Int)]⟩).level.xs++[(0:Nat)]⟩).u_reason ⟨some b2,c2',((N.u_value ⟨some b0,c0',N.value.xs++[(0:Int)]⟩).u_level ⟨some b1,c1',(N.u_value ⟨some b0,c0',N.value.xs++[(0:Int)]⟩).level.xs++[(0:Nat)]⟩).reason.xs++[(-1:Int)]⟩).u_phase ⟨some b3,c3',(((N.u_value ⟨some b0,c0',N.value.xs++[(0:Int)]⟩).u_level ⟨some b1,c1',(N.u_value ⟨some b0,c0',N.value.xs++[(0:Int)]⟩).level.xs++[(0:Nat)]⟩).u_reason ⟨some b2,c2',((N.u_value ⟨some b0,c0',N.value.xs++[(0:Int)]⟩).u_level ⟨some b1,c1',(N.u_value ⟨some b0,c0',N.value.xs++[(0:Int)]⟩).level.xs++[(0:Nat)]⟩).reason.xs++[(-1:Int)]⟩).phase.xs++[false]⟩).u_occurs ⟨some b4,c4',((((N.u_value ⟨some b0,c0',N.value.xs++[(0:Int)]⟩).u_level ⟨some b1,c1',(N.u_value ⟨some b0,c0',N.value.xs++[(0:Int)]⟩).level.xs++[(0:Nat)]⟩).u_reason ⟨some b2,c2',((N.u_value ⟨some b0,c0',N.value.xs++[(0:Int)]⟩).u_level ⟨some b1,c1',(N.u_value ⟨some b0,c0',N.value.xs++[(0:Int)]⟩).level.xs++[(0:Nat)]⟩).reason.xs++[(-1:Int)]⟩).u_phase ⟨some b3,c3',(((N.u_value ⟨some b0,c0',N.value.xs++[(0:Int)]⟩).u_level ⟨some b1,c1',(N.u_value ⟨some b0,c0',N.value.xs++[(0:Int)]⟩).level.xs++[(0:Nat)]⟩).u_reason ⟨some b2,c2',((N.u_value ⟨some b0,c0',N.value.xs++[(0:Int)]⟩).u_level ⟨some b1,c1',(N.u_value ⟨some b0,c0',N.value.xs++[(0:Int)]⟩).level.xs++[(0:Nat)]⟩).reason.xs++[(-1:Int)]⟩).phase.xs++[false]⟩).occurs.xs++[false]⟩).watches.xs.length=n:=⟨_,rfl⟩
   have hb5:n5≤900000:=by rw[←hn5];have:=HGR.out.watches;have h2:(N.watches.xs.map (·.xs)).length≤900000:=this;rw[List.length_map] at h2;exact h2
   have c5:=H5.out.c_watches
   have t5:=H5.out.t_watches
   rw[hn5] at c5 t5
   have HT5:=Lib.hid t5
   have HN5:=Lib.hid hn5
   clear hn5 t5
   go_upto_region 7 with (at_builtin;refine wpList_append_spread rfl _ _ 37 27 (.slice none 0 0) 24 rfl Tryz.underlying37 Tryz.infoRow rfl (HT5.out.alloc _) rfl ⟨_,0,none⟩ 2 2 [.slice none 0 0,.slice none 0 0] rfl rfl (fun j u hj=>cell_two _ _ _ j u hj) (by simp[Value.oneCell']) (by omega) (by simp only[maxLen];omega) (by omega) ?_;intro b5 c5' v5 hs _ _;have h6:=At.push_nils (M:=(((((N.u_value ⟨some b0,c0',N.value.xs++[(0:Int)]⟩).u_level ⟨some b1,c1',(N.u_value ⟨some b0,c0',N.value.xs++[(0:Int)]⟩).level.xs++[(0:Nat)]⟩).u_reason ⟨some b2,c2',((N.u_value ⟨some b0,c0',N.value.xs++[(0:Int)]⟩).u_level ⟨some b1,c1',(N.u_value ⟨some b0,c0',N.value.xs++[(0:Int)]⟩).level.xs++[(0:Nat)]⟩).reason.xs++[(-1:Int)]⟩).u_phase ⟨some b3,c3',(((N.u_value ⟨some b0,c0',N.value.xs++[(0:Int)]⟩).u_level ⟨some b1,c1',(N.u_value ⟨some b0,c0',N.value.xs++[(0:Int)]⟩).level.xs++[(0:Nat)]⟩).u_reason ⟨some b2,c2',((N.u_value ⟨some b0,c0',N.value.xs++[(0:Int)]⟩).u_level ⟨some b1,c1',(N.u_value ⟨some b0,c0',N.value.xs++[(0:Int)]⟩).level.xs++[(0:Nat)]⟩).reason.xs++[(-1:Int)]⟩).phase.xs++[false]⟩).u_occurs ⟨some b4,c4',((((N.u_value ⟨some b0,c0',N.value.xs++[(0:Int)]⟩).u_level ⟨some b1,c1',(N.u_value ⟨some b0,c0',N.value.xs++[(0:Int)]⟩).level.xs++[(0:Nat)]⟩).u_reason ⟨some b2,c2',((N.u_value ⟨some b0,c0',N.value.xs++[(0:Int)]⟩).u_level ⟨some b1,c1',(N.u_value ⟨some b0,c0',N.value.xs++[(0:Int)]⟩).level.xs++[(0:Nat)]⟩).reason.xs++[(-1:Int)]⟩).u_phase ⟨some b3,c3',(((N.u_value ⟨some b0,c0',N.value.xs++[(0:Int)]⟩).u_level ⟨some b1,c1',(N.u_value ⟨some b0,c0',N.value.xs++[(0:Int)]⟩).level.xs++[(0:Nat)]⟩).u_reason ⟨some b2,c2',((N.u_value ⟨some b0,c0',N.value.xs++[(0:Int)]⟩).u_level ⟨some b1,c1',(N.u_value ⟨some b0,c0',N.value.xs++[(0:Int)]⟩).level.xs++[(0:Nat)]⟩).reason.xs++[(-1:Int)]⟩).phase.xs++[false]⟩).occurs.xs++[false]⟩)) H5.out.lastN HN5.out hs;have H6:=Lib.hid h6;clear hs h6;obtain⟨c7,f7⟩:=H6.out.1)
   have h6:=H6.out.2
   clear H6 c7 f7 c5 HT5
   revert h6
   generalize v5.setCell ⟨p,6,none⟩ (.slice (some ⟨b5,0,none⟩) (n5+2) c5')=w6
   intro h6
   have H6:=Lib.hid h6
   clear h6
   obtain⟨n6,hn6⟩:∃ n,((((((N.u_value ⟨some b0,c0',N.value.xs++[(0:Int)]⟩).u_level ⟨some b1,c1',(N.u_value ⟨some b0,c0',N.value.xs++[(0:Int)]⟩).level.xs++[(0:Nat)]⟩).u_reason ⟨some b2,c2',((N.u_value ⟨some b0,c0',N.value.xs++[(0:Int)]⟩).u_level ⟨some b1,c1',(N.u_value ⟨some b0,c0',N.value.xs++[(0:Int)]⟩).level.xs++[(0:Nat)]⟩).reason.xs++[(-1:Int)]⟩).u_phase ⟨some b3,c3',(((N.u_value ⟨some b0,c0',N.value.xs++[(0:Int)]⟩).u_level ⟨some b1,c1',(N.u_value ⟨some b0,c0',N.value.xs++[(0:Int)]⟩).level.xs++[(0:Nat)]⟩).u_reason ⟨some b2,c2',((N.u_value ⟨some b0,c0',N.value.xs++[(0:Int)]⟩).u_level ⟨some b1,c1',(N.u_value ⟨some b0,c0',N.value.xs++[(0:Int)]⟩).level.xs++[(0:Nat)]⟩).reason.xs++[(-1:Int)]⟩).phase.xs++[false]⟩).u_occurs ⟨some b4,c4',((((N.u_value ⟨some b0,c0',N.value.xs++[(0:Int)]⟩).u_level ⟨some b1,c1',(N.u_value ⟨some b0,c0',N.value.xs++[(0:Int)]⟩).level.xs++[(0:Nat)]⟩).u_reason ⟨some b2,c2',((N.u_value ⟨some b0,c0',N.value.xs++[(0:Int)]⟩).u_level ⟨some b1,c1',(N.u_value ⟨some b0,c0',N.value.xs++[(0:Int)]⟩).level.xs++[(0:Nat)]⟩).reason.xs++[(-1:Int)]⟩).u_phase ⟨some b3,c3',(((N.u_value ⟨some b0,c0',N.value.xs++[(0:Int)]⟩).u_level ⟨some b1,c1',(N.u_value ⟨some b0,c0',N.value.xs++[(0:Int)]⟩).level.xs++[(0:Nat)]⟩).u_reason ⟨some b2,c2',((N.u_value ⟨some b0,c0',N.value.xs++[(0:Int)]⟩).u_level ⟨some b1,c1',(N.u_value ⟨some b0,c0',N.value.xs++[(0:Int)]⟩).level.xs++[(0:Nat)]⟩).reason.xs++[(-1:Int)]⟩).phase.xs++[false]⟩).occurs.xs++[false]⟩).u_watches ⟨some b5,c5',(((((N.u_value ⟨some b0,c0',N.value.xs++[(0:Int)]⟩).u_level ⟨some b1,c1',(N.u_value ⟨some b0,c0',N.value.xs++[(0:Int)]⟩).level.xs++[(0:Nat)]⟩).u_reason ⟨some b2,c2',((N.u_value ⟨some b0,c0',N.value.xs++[(0:Int)]⟩).u_level ⟨some b1,c1',(N.u_value ⟨some b0,c0',N.value.xs++[(0:Int)]⟩).level.xs++[(0:Nat)]⟩).reason.xs++[(-1:Int)]⟩).u_phase ⟨some b3,c3',(((N.u_value ⟨some b0,c0',N.value.xs++[(0:Int)]⟩).u_level ⟨some b1,c1',(N.u_value ⟨some b0,c0',N.value.xs++[(0:Int)]⟩).level.xs++[(0:Nat)]⟩).u_reason ⟨some b2,c2',((N.u_value ⟨some b0,c0',N.value.xs++[(0:Int)]⟩).u_level ⟨some b1,c1',(N.u_value ⟨some b0,c0',N.value.xs++[(0:Int)]⟩).level.xs++[(0:Nat)]⟩).reason.xs++[(-1:Int)]⟩).phase.xs++[false]⟩).u_occurs ⟨some b4,c4',((((N.u_value ⟨some b0,c0',N.value.xs++[(0:Int)]⟩).u_level ⟨some b1,c1',(N.u_value ⟨some b0,c0',N.value.xs++[(0:Int)]⟩).level.xs++[(0:Nat)]⟩).u_reason ⟨some b2,c2',((N.u_value ⟨some b0,c0',N.value.xs++[(0:Int)]⟩).u_level ⟨some b1,c1',(N.u_value ⟨some b0,c0',N.value.xs++[(0:Int)]⟩).level.xs++[(0:Nat)]⟩).reason.xs++[(-1:Int)]⟩).u_phase ⟨some b3,c3',(((N.u_value ⟨some b0,c0',N.value.xs++[(0:Int)]⟩).u_level ⟨some b1,c1',(N.u_value ⟨some b0,c0',N.value.xs++[(0:Int)]⟩).level.xs++[(0:Nat)]⟩).u_reason ⟨some b2,c2',((N.u_value ⟨some b0,c0',N.value.xs++[(0:Int)]⟩).u_level ⟨some b1,c1',(N.u_value ⟨some b0,c0',N.value.xs++[(0:Int)]⟩).level.xs++[(0:Nat)]⟩).reason.xs++[(-1:Int)]⟩).phase.xs++[false]⟩).occurs.xs++[false]⟩).watches.xs++[⟨none,0,[]⟩,⟨none,0,[]⟩]⟩).units.xs.length=n:=⟨_,rfl⟩
   have hb6:n6≤900000:=by rw[←hn6];have h2:N.units.xs.length≤90000:=HGR.out.units;show N.units.xs.length≤_;omega
   have c6:=H6.out.c_units
   have t6:=H6.out.t_units
   rw[hn6] at c6 t6
   have HT6:=Lib.hid t6
   have HN6:=Lib.hid hn6
   clear hn6 t6
   go_upto_region 8 with (at_builtin;refine wpList_append1 rfl _ _ 27 3 (.int .i64 0) 8 rfl Tryz.underlying27 Tryz.infoIntS rfl HT6.out rfl (.int .i64 (-1)) rfl rfl (by omega) (by simp only[maxLen];omega) ?_;intro b6 c6' v6 hs;have h6:=At.push_units (M:=((((((N.u_value ⟨some b0,c0',N.value.xs++[(0:Int)]⟩).u_level ⟨some b1,c1',(N.u_value ⟨some b0,c0',N.value.xs++[(0:Int)]⟩).level.xs++[(0:Nat)]⟩).u_reason ⟨some b2,c2',((N.u_value ⟨some b0,c0',N.value.xs++[(0:Int)]⟩).u_level ⟨some b1,c1',(N.u_value ⟨some b0,c0',N.value.xs++[(0:Int)]⟩).level.xs++[(0:Nat)]⟩).reason.xs++[(-1:Int)]⟩).u_phase ⟨some b3,c3',(((N.u_value ⟨some b0,c0',N.value.xs++[(0:Int)]⟩).u_level ⟨some b1,c1',(N.u_value ⟨some b0,c0',N.value.xs++[(0:Int)]⟩).level.xs++[(0:Nat)]⟩).u_reason ⟨some b2,c2',((N.u_value ⟨some b0,c0',N.value.xs++[(0:Int)]⟩).u_level ⟨some b1,c1',(N.u_value ⟨some b0,c0',N.value.xs++[(0:Int)]⟩).level.xs++[(0:Nat)]⟩).reason.xs++[(-1:Int)]⟩).phase.xs++[false]⟩).u_occurs ⟨some b4,c4',((((N.u_value ⟨some b0,c0',N.value.xs++[(0:Int)]⟩).u_level ⟨some b1,c1',(N.u_value ⟨some b0,c0',N.value.xs++[(0:Int)]⟩).level.xs++[(0:Nat)]⟩).u_reason ⟨some b2,c2',((N.u_value ⟨some b0,c0',N.value.xs++[(0:Int)]⟩).u_level ⟨some b1,c1',(N.u_value ⟨some b0,c0',N.value.xs++[(0:Int)]⟩).level.xs++[(0:Nat)]⟩).reason.xs++[(-1:Int)]⟩).u_phase ⟨some b3,c3',(((N.u_value ⟨some b0,c0',N.value.xs++[(0:Int)]⟩).u_level ⟨some b1,c1',(N.u_value ⟨some b0,c0',N.value.xs++[(0:Int)]⟩).level.xs++[(0:Nat)]⟩).u_reason ⟨some b2,c2',((N.u_value ⟨some b0,c0',N.value.xs++[(0:Int)]⟩).u_level ⟨some b1,c1',(N.u_value ⟨some b0,c0',N.value.xs++[(0:Int)]⟩).level.xs++[(0:Nat)]⟩).reason.xs++[(-1:Int)]⟩).phase.xs++[false]⟩).occurs.xs++[false]⟩).u_watches ⟨some b5,c5',(((((N.u_value ⟨some b0,c0',N.value.xs++[(0:Int)]⟩).u_level ⟨some b1,c1',(N.u_value ⟨some b0,c0',N.value.xs++[(0:Int)]⟩).level.xs++[(0:Nat)]⟩).u_reason ⟨some b2,c2',((N.u_value ⟨some b0,c0',N.value.xs++[(0:Int)]⟩).u_level ⟨some b1,c1',(N.u_value ⟨some b0,c0',N.value.xs++[(0:Int)]⟩).level.xs++[(0:Nat)]⟩).reason.xs++[(-1:Int)]⟩).u_phase ⟨some b3,c3',(((N.u_value ⟨some b0,c0',N.value.xs++[(0:Int)]⟩).u_level ⟨some b1,c1',(N.u_value ⟨some b0,c0',N.value.xs++[(0:Int)]⟩).level.xs++[(0:Nat)]⟩).u_reason ⟨some b2,c2',((N.u_value ⟨some b0,c0',N.value.xs++[(0:Int)]⟩).u_level ⟨some b1,c1',(N.u_value ⟨some b0,c0',N.value.xs++[(0:Int)]⟩).level.xs++[(0:Nat)]⟩).reason.xs++[(-1:Int)]⟩).phase.xs++[false]⟩).u_occurs ⟨some b4,c4',((((N.u_value ⟨some b0,c0',N.value.xs++[(0:Int)]⟩).u_level ⟨some b1,c1',(N.u_value ⟨some b0,c0',N.value.xs++[(0:Int)]⟩).level.xs++[(0:Nat)]⟩).u_reason ⟨some b2,c2',((N.u_value ⟨some b0,c0',N.value.xs++[(0:Int)]⟩).u_level ⟨some b1,c1',(N.u_value ⟨some b0,c0',N.value.xs++[(0:Int)]⟩).level.xs++[(0:Nat)]⟩).reason.xs++[(-1:Int)]⟩).u_phase ⟨some b3,c3',(((N.u_value ⟨some b0,c0',N.value.xs++[(0:Int)]⟩).u_level ⟨some b1,c1',(N.u_value ⟨some b0,c0',N.value.xs++[(0:Int)]⟩).level.xs++[(0:Nat)]⟩).u_reason ⟨some b2,c2',((N.u_value ⟨some b0,c0',N.value.xs++[(0:Int)]⟩).u_level ⟨some b1,c1',(N.u_value ⟨some b0,c0',N.value.xs++[(0:Int)]⟩).level.xs++[(0:Nat)]⟩).reason.xs++[(-1:Int)]⟩).phase.xs++[false]⟩).occurs.xs++[false]⟩).watches.xs++[⟨none,0,[]⟩,⟨none,0,[]⟩]⟩)) (x:=(-1:Int)) H6.out.lastN HN6.out hs;have H6:=Lib.hid h6;clear hs h6;obtain⟨c7,f7⟩:=H6.out.1)
   have h7:=H6.out.2
   clear H6 c7 f7 c6 HT6
   revert h7
   generalize v6.setCell ⟨p,20,none⟩ (.slice (some ⟨b6,0,none⟩) (n6+1) c6')=w7
   intro h7
   have H7:=Lib.hid h7
   clear h7
   have hm1:MM.sv (((((((((N.u_value ⟨some b0,c0',N.value.xs++[(0:Int)]⟩).u_level ⟨some b1,c1',(N.u_value ⟨some b0,c0',N.value.xs++[(0:Int)]⟩).level.xs++[(0:Nat)]⟩).u_reason ⟨some b2,c2',((N.u_value ⟨some b0,c0',N.value.xs++[(0:Int)]⟩).u_level ⟨some b1,c1',(N.u_value ⟨some b0,c0',N.value.xs++[(0:Int)]⟩).level.xs++[(0:Nat)]⟩).reason.xs++[(-1:Int)]⟩).u_phase ⟨some b3,c3',(((N.u_value ⟨some b0,c0',N.value.xs++[(0:Int)]⟩).u_level ⟨some b1,c1',(N.u_value ⟨some b0,c0',N.value.xs++[(0:Int)]⟩).level.xs++[(0:Nat)]⟩).u_reason ⟨some b2,c2',((N.u_value ⟨some b0,c0',N.value.xs++[(0:Int)]⟩).u_level ⟨some b1,c1',(N.u_value ⟨some b0,c0',N.value.xs++[(0:Int)]⟩).level.xs++[(0:Nat)]⟩).reason.xs++[(-1:Int)]⟩).phase.xs++[false]⟩).u_occurs ⟨some b4,c4',((((N.u_value ⟨some b0,c0',N.value.xs++[(0:Int)]⟩).u_level ⟨some b1,c1',(N.u_value ⟨some b0,c0',N.value.xs++[(0:Int)]⟩).level.xs++[(0:Nat)]⟩).u_reason ⟨some b2,c2',((N.u_value ⟨some b0,c0',N.value.xs++[(0:Int)]⟩).u_level ⟨some b1,c1',(N.u_value ⟨some b0,c0',N.value.xs++[(0:Int)]⟩).level.xs++[(0:Nat)]⟩).reason.xs++[(-1:Int)]⟩).u_phase ⟨some b3,c3',(((N.u_value ⟨some b0,c0',N.value.xs++[(0:Int)]⟩).u_level ⟨some b1,c1',(N.u_value ⟨some b0,c0',N.value.xs++[(0:Int)]⟩).level.xs++[(0:Nat)]⟩).u_reason ⟨some b2,c2',((N.u_value ⟨some b0,c0',N.value.xs++[(0:Int)]⟩).u_level ⟨some b1,c1',(N.u_value ⟨some b0,c0',N.value.xs++[(0:Int)]⟩).level.xs++[(0:Nat)]⟩).reason.xs++[(-1:Int)]⟩).phase.xs++[false]⟩).occurs.xs++[false]⟩).u_watches ⟨some b5,c5',(((((N.u_value ⟨some b0,c0',N.value.xs++[(0:Int)]⟩).u_level ⟨some b1,c1',(N.u_value ⟨some b0,c0',N.value.xs++[(0:Int)]⟩).level.xs++[(0:Nat)]⟩).u_reason ⟨some b2,c2',((N.u_value ⟨some b0,c0',N.value.xs++[(0:Int)]⟩).u_level ⟨some b1,c1',(N.u_value ⟨some b0,c0',N.value.xs++[(0:Int)]⟩).level.xs++[(0:Nat)]⟩).reason.xs++[(-1:Int)]⟩).u_phase ⟨some b3,c3',(((N.u_value ⟨some b0,c0',N.value.xs++[(0:Int)]⟩).u_level ⟨some b1,c1',(N.u_value ⟨some b0,c0',N.value.xs++[(0:Int)]⟩).level.xs++[(0:Nat)]⟩).u_reason ⟨some b2,c2',((N.u_value ⟨some b0,c0',N.value.xs++[(0:Int)]⟩).u_level ⟨some b1,c1',(N.u_value ⟨some b0,c0',N.value.xs++[(0:Int)]⟩).level.xs++[(0:Nat)]⟩).reason.xs++[(-1:Int)]⟩).phase.xs++[false]⟩).u_occurs ⟨some b4,c4',((((N.u_value ⟨some b0,c0',N.value.xs++[(0:Int)]⟩).u_level ⟨some b1,c1',(N.u_value ⟨some b0,c0',N.value.xs++[(0:Int)]⟩).level.xs++[(0:Nat)]⟩).u_reason ⟨some b2,c2',((N.u_value ⟨some b0,c0',N.value.xs++[(0:Int)]⟩).u_level ⟨some b1,c1',(N.u_value ⟨some b0,c0',N.value.xs++[(0:Int)]⟩).level.xs++[(0:Nat)]⟩).reason.xs++[(-1:Int)]⟩).u_phase ⟨some b3,c3',(((N.u_value ⟨some b0,c0',N.value.xs++[(0:Int)]⟩).u_level ⟨some b1,c1',(N.u_value ⟨some b0,c0',N.value.xs++[(0:Int)]⟩).level.xs++[(0:Nat)]⟩).u_reason ⟨some b2,c2',((N.u_value ⟨some b0,c0',N.value.xs++[(0:Int)]⟩).u_level ⟨some b1,c1',(N.u_value ⟨some b0,c0',N.value.xs++[(0:Int)]⟩).level.xs++[(0:Nat)]⟩).reason.xs++[(-1:Int)]⟩).phase.xs++[false]⟩).occurs.xs++[false]⟩).watches.xs++[⟨none,0,[]⟩,⟨none,0,[]⟩]⟩).u_units ⟨some b6,c6',((((((N.u_value ⟨some b0,c0',N.value.xs++[(0:Int)]⟩).u_level ⟨some b1,c1',(N.u_value ⟨some b0,c0',N.value.xs++[(0:Int)]⟩).level.xs++[(0:Nat)]⟩).u_reason ⟨some b2,c2',((N.u_value ⟨some b0,c0',N.value.xs++[(0:Int)]⟩).u_level ⟨some b1,c1',(N.u_value ⟨some b0,c0',N.value.xs++[(0:Int)]⟩).level.xs++[(0:Nat)]⟩).reason.xs++[(-1:Int)]⟩).u_phase ⟨some b3,c3',(((N.u_value ⟨some b0,c0',N.value.xs++[(0:Int)]⟩).u_level ⟨some b1,c1',(N.u_value ⟨some b0,c0',N.value.xs++[(0:Int)]⟩).level.xs++[(0:Nat)]⟩).u_reason ⟨some b2,c2',((N.u_value ⟨some b0,c0',N.value.xs++[(0:Int)]⟩).u_level ⟨some b1,c1',(N.u_value ⟨some b0,c0',N.value.xs++[(0:Int)]⟩).level.xs++[(0:Nat)]⟩).reason.xs++[(-1:Int)]⟩).phase.xs++[false]⟩).u_occurs ⟨some b4,c4',((((N.u_value ⟨some b0,c0',N.value.xs++[(0:Int)]⟩).u_level ⟨some b1,c1',(N.u_value ⟨some b0,c0',N.value.xs++[(0:Int)]⟩).level.xs++[(0:Nat)]⟩).u_reason ⟨some b2,c2',((N.u_value ⟨some b0,c0',N.value.xs++[(0:Int)]⟩).u_level ⟨some b1,c1',(N.u_value ⟨some b0,c0',N.value.xs++[(0:Int)]⟩).level.xs++[(0:Nat)]⟩).reason.xs++[(-1:Int)]⟩).u_phase ⟨some b3,c3',(((N.u_value ⟨some b0,c0',N.value.xs++[(0:Int)]⟩).u_level ⟨some b1,c1',(N.u_value ⟨some b0,c0',N.value.xs++[(0:Int)]⟩).level.xs++[(0:Nat)]⟩).u_reason ⟨some b2,c2',((N.u_value ⟨some b0,c0',N.value.xs++[(0:Int)]⟩).u_level ⟨some b1,c1',(N.u_value ⟨some b0,c0',N.value.xs++[(0:Int)]⟩).level.xs++[(0:Nat)]⟩).reason.xs++[(-1:Int)]⟩).phase.xs++[false]⟩).occurs.xs++[false]⟩).u_watches ⟨some b5,c5',(((((N.u_value ⟨some b0,c0',N.value.xs++[(0:Int)]⟩).u_level ⟨some b1,c1',(N.u_value ⟨some b0,c0',N.value.xs++[(0:Int)]⟩).level.xs++[(0:Nat)]⟩).u_reason ⟨some b2,c2',((N.u_value ⟨some b0,c0',N.value.xs++[(0:Int)]⟩).u_level ⟨some b1,c1',(N.u_value ⟨some b0,c0',N.value.xs++[(0:Int)]⟩).level.xs++[(0:Nat)]⟩).reason.xs++[(-1:Int)]⟩).u_phase ⟨some b3,c3',(((N.u_value ⟨some b0,c0',N.value.xs++[(0:Int)]⟩).u_level ⟨some b1,c1',(N.u_value ⟨some b0,c0',N.value.xs++[(0:Int)]⟩).level.xs++[(0:Nat)]⟩).u_reason ⟨some b2,c2',((N.u_value ⟨some b0,c0',N.value.xs++[(0:Int)]⟩).u_level ⟨some b1,c1',(N.u_value ⟨some b0,c0',N.value.xs++[(0:Int)]⟩).level.xs++[(0:Nat)]⟩).reason.xs++[(-1:Int)]⟩).phase.xs++[false]⟩).u_occurs ⟨some b4,c4',((((N.u_value ⟨some b0,c0',N.value.xs++[(0:Int)]⟩).u_level ⟨some b1,c1',(N.u_value ⟨some b0,c0',N.value.xs++[(0:Int)]⟩).level.xs++[(0:Nat)]⟩).u_reason ⟨some b2,c2',((N.u_value ⟨some b0,c0',N.value.xs++[(0:Int)]⟩).u_level ⟨some b1,c1',(N.u_value ⟨some b0,c0',N.value.xs++[(0:Int)]⟩).level.xs++[(0:Nat)]⟩).reason.xs++[(-1:Int)]⟩).u_phase ⟨some b3,c3',(((N.u_value ⟨some b0,c0',N.value.xs++[(0:Int)]⟩).u_level ⟨some b1,c1',(N.u_value ⟨some b0,c0',N.value.xs++[(0:Int)]⟩).level.xs++[(0:Nat)]⟩).u_reason ⟨some b2,c2',((N.u_value ⟨some b0,c0',N.value.xs++[(0:Int)]⟩).u_level ⟨some b1,c1',(N.u_value ⟨some b0,c0',N.value.xs++[(0:Int)]⟩).level.xs++[(0:Nat)]⟩).reason.xs++[(-1:Int)]⟩).phase.xs++[false]⟩).occurs.xs++[false]⟩).watches.xs++[⟨none,0,[]⟩,⟨none,0,[]⟩]⟩).units.xs++[(-1:Int)]⟩).u_place ⟨N.place.a,N.place.c,N.place.xs++[0]⟩).u_met ⟨N.met.a,N.met.c,N.met.xs++[0]⟩)=more1 N.sv:=by
    show ({ more1 N.sv with watches:=(N.watches.xs++[(⟨none,0,[]⟩:Fl Nat),⟨none,0,[]⟩]).map (·.xs) }:SM)=more1 N.sv
    rw[List.map_append]
    rfl
   have HM1:=Lib.hid hm1
   have c9:=H7.out.c_value
   have hl9:(N.value.xs++[(0:Int)]).length=n+1:=by rw[List.length_append,HN.out];rfl
   have hc9:w7.cell? ⟨p,7,none⟩=some (.slice (some ⟨b0,0,none⟩) (n+1) c0'):=by rw[←hl9];exact c9
   have hp9:N.place.xs.length≤90000:=HGR.out.place
   have hm9:N.met.xs.length≤90000:=HGR.out.met
   have hv9:n≤90000:=by rw[←HN.out];exact HGR.out.value
   have HQ:=Lib.hid (hgrow_any n (H7.out.drewN 1) (by show N.place.xs.length≤_;omega) (by show N.met.xs.length≤_;omega) (fun h0=>by
    obtain⟨k1,k2⟩:=HGR.out.hb (by show 0<N.value.xs.length;rw[HN.out];exact h0)
    refine⟨?_,by show n<(N.value.xs++[(0:Int)]).length;rw[hl9];omega,by show N.hl.xs.length<(N.value.xs++[(0:Int)]).length;rw[hl9,←HN.out];exact k2⟩
    exact hm1▸k1) (by omega))
   clear c9 hm1
   have n9:(0:Int)≤(n:Int):=by omega
   go_still_tail 9,(by kernel_rfl)
   repeat still_step
   try refine wpStill_nil ?_
   try change wpList _ _ _ _ _ w7.drew
   go_wp2_with fail
   refine HQ.out.mono ?_
   rintro e w8 ⟨rfl,aa,bb,cc,h8,h9⟩
   have H8:=Lib.hid h8
   have HS8:=Lib.hid (show MM.sv ((((((((N.u_value ⟨some b0,c0',N.value.xs++[(0:Int)]⟩).u_level ⟨some b1,c1',(N.u_value ⟨some b0,c0',N.value.xs++[(0:Int)]⟩).level.xs++[(0:Nat)]⟩).u_reason ⟨some b2,c2',((N.u_value ⟨some b0,c0',N.value.xs++[(0:Int)]⟩).u_level ⟨some b1,c1',(N.u_value ⟨some b0,c0',N.value.xs++[(0:Int)]⟩).level.xs++[(0:Nat)]⟩).reason.xs++[(-1:Int)]⟩).u_phase ⟨some b3,c3',(((N.u_value ⟨some b0,c0',N.value.xs++[(0:Int)]⟩).u_level ⟨some b1,c1',(N.u_value ⟨some b0,c0',N.value.xs++[(0:Int)]⟩).level.xs++[(0:Nat)]⟩).u_reason ⟨some b2,c2',((N.u_value ⟨some b0,c0',N.value.xs++[(0:Int)]⟩).u_level ⟨some b1,c1',(N.u_value ⟨some b0,c0',N.value.xs++[(0:Int)]⟩).level.xs++[(0:Nat)]⟩).reason.xs++[(-1:Int)]⟩).phase.xs++[false]⟩).u_occurs ⟨some b4,c4',((((N.u_value ⟨some b0,c0',N.value.xs++[(0:Int)]⟩).u_level ⟨some b1,c1',(N.u_value ⟨some b0,c0',N.value.xs++[(0:Int)]⟩).level.xs++[(0:Nat)]⟩).u_reason ⟨some b2,c2',((N.u_value ⟨some b0,c0',N.value.xs++[(0:Int)]⟩).u_level ⟨some b1,c1',(N.u_value ⟨some b0,c0',N.value.xs++[(0:Int)]⟩).level.xs++[(0:Nat)]⟩).reason.xs++[(-1:Int)]⟩).u_phase ⟨some b3,c3',(((N.u_value ⟨some b0,c0',N.value.xs++[(0:Int)]⟩).u_level ⟨some b1,c1',(N.u_value ⟨some b0,c0',N.value.xs++[(0:Int)]⟩).level.xs++[(0:Nat)]⟩).u_reason ⟨some b2,c2',((N.u_value ⟨some b0,c0',N.value.xs++[(0:Int)]⟩).u_level ⟨some b1,c1',(N.u_value ⟨some b0,c0',N.value.xs++[(0:Int)]⟩).level.xs++[(0:Nat)]⟩).reason.xs++[(-1:Int)]⟩).phase.xs++[false]⟩).occurs.xs++[false]⟩).u_watches ⟨some b5,c5',(((((N.u_value ⟨some b0,c0',N.value.xs++[(0:Int)]⟩).u_level ⟨some b1,c1',(N.u_value ⟨some b0,c0',N.value.xs++[(0:Int)]⟩).level.xs++[(0:Nat)]⟩).u_reason ⟨some b2,c2',((N.u_value ⟨some b0,c0',N.value.xs++[(0:Int)]⟩).u_level ⟨some b1,c1',(N.u_value ⟨some b0,c0',N.value.xs++[(0:Int)]⟩).level.xs++[(0:Nat)]⟩).reason.xs++[(-1:Int)]⟩).u_phase ⟨some b3,c3',(((N.u_value ⟨some b0,c0',N.value.xs++[(0:Int)]⟩).u_level ⟨some b1,c1',(N.u_value ⟨some b0,c0',N.value.xs++[(0:Int)]⟩).level.xs++[(0:Nat)]⟩).u_reason ⟨some b2,c2',((N.u_value ⟨some b0,c0',N.value.xs++[(0:Int)]⟩).u_level ⟨some b1,c1',(N.u_value ⟨some b0,c0',N.value.xs++[(0:Int)]⟩).level.xs++[(0:Nat)]⟩).reason.xs++[(-1:Int)]⟩).phase.xs++[false]⟩).u_occurs ⟨some b4,c4',((((N.u_value ⟨some b0,c0',N.value.xs++[(0:Int)]⟩).u_level ⟨some b1,c1',(N.u_value ⟨some b0,c0',N.value.xs++[(0:Int)]⟩).level.xs++[(0:Nat)]⟩).u_reason ⟨some b2,c2',((N.u_value ⟨some b0,c0',N.value.xs++[(0:Int)]⟩).u_level ⟨some b1,c1',(N.u_value ⟨some b0,c0',N.value.xs++[(0:Int)]⟩).level.xs++[(0:Nat)]⟩).reason.xs++[(-1:Int)]⟩).u_phase ⟨some b3,c3',(((N.u_value ⟨some b0,c0',N.value.xs++[(0:Int)]⟩).u_level ⟨some b1,c1',(N.u_value ⟨some b0,c0',N.value.xs++[(0:Int)]⟩).level.xs++[(0:Nat)]⟩).u_reason ⟨some b2,c2',((N.u_value ⟨some b0,c0',N.value.xs++[(0:Int)]⟩).u_level ⟨some b1,c1',(N.u_value ⟨some b0,c0',N.value.xs++[(0:Int)]⟩).level.xs++[(0:Nat)]⟩).reason.xs++[(-1:Int)]⟩).phase.xs++[false]⟩).occurs.xs++[false]⟩).watches.xs++[⟨none,0,[]⟩,⟨none,0,[]⟩]⟩).u_units ⟨some b6,c6',((((((N.u_value ⟨some b0,c0',N.value.xs++[(0:Int)]⟩).u_level ⟨some b1,c1',(N.u_value ⟨some b0,c0',N.value.xs++[(0:Int)]⟩).level.xs++[(0:Nat)]⟩).u_reason ⟨some b2,c2',((N.u_value ⟨some b0,c0',N.value.xs++[(0:Int)]⟩).u_level ⟨some b1,c1',(N.u_value ⟨some b0,c0',N.value.xs++[(0:Int)]⟩).level.xs++[(0:Nat)]⟩).reason.xs++[(-1:Int)]⟩).u_phase ⟨some b3,c3',(((N.u_value ⟨some b0,c0',N.value.xs++[(0:Int)]⟩).u_level ⟨some b1,c1',(N.u_value ⟨some b0,c0',N.value.xs++[(0:Int)]⟩).level.xs++[(0:Nat)]⟩).u_reason ⟨some b2,c2',((N.u_value ⟨some b0,c0',N.value.xs++[(0:Int)]⟩).u_level ⟨some b1,c1',(N.u_value ⟨some b0,c0',N.value.xs++[(0:Int)]⟩).level.xs++[(0:Nat)]⟩).reason.xs++[(-1:Int)]⟩).phase.xs++[false]⟩).u_occurs ⟨some b4,c4',((((N.u_value ⟨some b0,c0',N.value.xs++[(0:Int)]⟩).u_level ⟨some b1,c1',(N.u_value ⟨some b0,c0',N.value.xs++[(0:Int)]⟩).level.xs++[(0:Nat)]⟩).u_reason ⟨some b2,c2',((N.u_value ⟨some b0,c0',N.value.xs++[(0:Int)]⟩).u_level ⟨some b1,c1',(N.u_value ⟨some b0,c0',N.value.xs++[(0:Int)]⟩).level.xs++[(0:Nat)]⟩).reason.xs++[(-1:Int)]⟩).u_phase ⟨some b3,c3',(((N.u_value ⟨some b0,c0',N.value.xs++[(0:Int)]⟩).u_level ⟨some b1,c1',(N.u_value ⟨some b0,c0',N.value.xs++[(0:Int)]⟩).level.xs++[(0:Nat)]⟩).u_reason ⟨some b2,c2',((N.u_value ⟨some b0,c0',N.value.xs++[(0:Int)]⟩).u_level ⟨some b1,c1',(N.u_value ⟨some b0,c0',N.value.xs++[(0:Int)]⟩).level.xs++[(0:Nat)]⟩).reason.xs++[(-1:Int)]⟩).phase.xs++[false]⟩).occurs.xs++[false]⟩).u_watches ⟨some b5,c5',(((((N.u_value ⟨some b0,c0',N.value.xs++[(0:Int)]⟩).u_level ⟨some b1,c1',(N.u_value ⟨some b0,c0',N.value.xs++[(0:Int)]⟩).level.xs++[(0:Nat)]⟩).u_reason ⟨some b2,c2',((N.u_value ⟨some b0,c0',N.value.xs++[(0:Int)]⟩).u_level ⟨some b1,c1',(N.u_value ⟨some b0,c0',N.value.xs++[(0:Int)]⟩).level.xs++[(0:Nat)]⟩).reason.xs++[(-1:Int)]⟩).u_phase ⟨some b3,c3',(((N.u_value ⟨some b0,c0',N.value.xs++[(0:Int)]⟩).u_level ⟨some b1,c1',(N.u_value ⟨some b0,c0',N.value.xs++[(0:Int)]⟩).level.xs++[(0:Nat)]⟩).u_reason ⟨some b2,c2',((N.u_value ⟨some b0,c0',N.value.xs++[(0:Int)]⟩).u_level ⟨some b1,c1',(N.u_value ⟨some b0,c0',N.value.xs++[(0:Int)]⟩).level.xs++[(0:Nat)]⟩).reason.xs++[(-1:Int)]⟩).phase.xs++[false]⟩).u_occurs ⟨some b4,c4',((((N.u_value ⟨some b0,c0',N.value.xs++[(0:Int)]⟩).u_level ⟨some b1,c1',(N.u_value ⟨some b0,c0',N.value.xs++[(0:Int)]⟩).level.xs++[(0:Nat)]⟩).u_reason ⟨some b2,c2',((N.u_value ⟨some b0,c0',N.value.xs++[(0:Int)]⟩).u_level ⟨some b1,c1',(N.u_value ⟨some b0,c0',N.value.xs++[(0:Int)]⟩).level.xs++[(0:Nat)]⟩).reason.xs++[(-1:Int)]⟩).u_phase ⟨some b3,c3',(((N.u_value ⟨some b0,c0',N.value.xs++[(0:Int)]⟩).u_level ⟨some b1,c1',(N.u_value ⟨some b0,c0',N.value.xs++[(0:Int)]⟩).level.xs++[(0:Nat)]⟩).u_reason ⟨some b2,c2',((N.u_value ⟨some b0,c0',N.value.xs++[(0:Int)]⟩).u_level ⟨some b1,c1',(N.u_value ⟨some b0,c0',N.value.xs++[(0:Int)]⟩).level.xs++[(0:Nat)]⟩).reason.xs++[(-1:Int)]⟩).phase.xs++[false]⟩).occurs.xs++[false]⟩).watches.xs++[⟨none,0,[]⟩,⟨none,0,[]⟩]⟩).units.xs++[(-1:Int)]⟩).u_heap aa bb cc)=N.sv.more by
    rw[more_eq,show N.sv.value.length=n from HN.out,←HM1.out]
    exact h9)
   clear h8 h9 HQ
   go_wp2
   go_roundg g
   case measure=>omega
   case rel=>exact⟨_,H8.out,by rw[HS8.out];exact HG.out,by rw[HS8.out];exact HO2.out,by rw[HE2.out];show _=v+1-(N.value.xs++[(0:Int)]).length;rw[hl9]⟩
  ·have e1:decide ((n:Int)≤(v:Int))=false:=by simp;omega
   obtain rfl:gk=0:=by omega
   clear hge HE HO
   go_wp2
   go_end0
   exact⟨rfl,N,H0.out,HG.out⟩
end
end Go.Proofs.YthbbmdnfkkffjaaGreat

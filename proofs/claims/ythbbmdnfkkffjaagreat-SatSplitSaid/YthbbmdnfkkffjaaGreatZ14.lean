/-
  Parts of the proof, joined by program: RegC, Beg, Row.
-/
import Derived.Test.YthbbmdnfkkffjaaGreatZ11
import Derived.Test.YthbbmdnfkkffjaaGreatZ09
import Derived.Test.YthbbmdnfkkffjaaGreatZ13
import Derived.Still
namespace Go.Proofs.PlaitSep
open Go
section
variable {P:Program} {ops:Array Oper} {Q:Exit→Act→World→Prop} {md:Region.Mode} {S:World→Prop} {z:Nat}
def CallsV (P:Program) (ops:Array Oper) (S:World→Prop) (o:Oper) (v:Value) (a:Act):Prop :=
 Region.wanted o (yielded ops a.tmps)=true∧∀ w,S w→∃ f args,(execOp a.eval o).run P w=.ok (.enter f args) w∧Calls P f args w (fun e w'=>e=.returned v∧w'=w)
theorem CallsV.wpOp {i:Nat} {o:Oper} {v:Value} {a:Act} (hi:ops[i]?=some o) (hy:CallsV P ops S o v a) {K:Act→World→Prop} {w:World} (hS:S w) (h:K (a.put o.dst v) w):wpOp P ops Q i K a w:=by
 obtain⟨hw,hv⟩:=hy
 obtain⟨f,args,hr,hc⟩:=hv w hS
 refine wpOp_step hi fun K' hK=>?_
 rw[if_pos hw]
 unfold Oper.wp
 rw[hr]
 simp only[Oper.upon]
 exact hc.mono fun e w' ⟨he,hw'⟩=>by subst he;subst hw';exact hK _ _ h
theorem CallsV.of_same {o:Oper} {v:Value} {a a':Act} (hy:CallsV P ops S o v a) (he:execOp a'.eval o=execOp a.eval o) (hw:Region.wanted o (yielded ops a'.tmps)=Region.wanted o (yielded ops a.tmps)):CallsV P ops S o v a':=by
 unfold CallsV at *
 rw[he,hw]
 exact hy
theorem wpOp_putC {j:Nat} {oi oj:Oper} {v:Value} (hj:ops[j]?=some oj) (hap:oi.apart ops oj=true) (hsi:∀ cs b,oi.op≠.select cs b) (hsj:∀ cs b,oj.op≠.select cs b)
  (hQ:∀ c a w,Q (.panic c) (a.put oi.dst v) w→Q (.panic c) a w) {K:Act→World→Prop} {a:Act} {w:World} (hy:CallsV P ops S oi v a) (h:wpOp P ops Q j K (a.put oi.dst v) w) :
  wpOp P ops Q j (fun a' w'=>CallsV P ops S oi v a'∧K (a'.put oi.dst v) w') a w:=by
 obtain⟨h1,h2,h3⟩:=Oper.apart_spec hap
 have keep:∀ (a:Act),CallsV P ops S oi v a→∀ u,CallsV P ops S oi v (a.put oj.dst u):=fun a hy u=>hy.of_same (execOp_put oi hsi a oj.dst u h3) (wanted_put oi a oj.dst u h3)
 have keepD:∀ d,CallsV P ops S oi v { a with defers:=d :: a.defers }:=fun d=>hy.of_same rfl rfl
 unfold Go.wpOp at *
 simp only[hj] at *
 rw[wanted_put oj a oi.dst v h1] at h
 by_cases hw:Region.wanted oj (yielded ops a.tmps)=true
 ·simp only[hw,if_true] at h ⊢
  rcases h with h | ⟨ha,hl⟩
  ·left
   unfold Oper.wp at *
   rw[execOp_put oj hsj a oi.dst v h1] at h
   revert h
   generalize (execOp a.eval oj).run P w=r
   intro h
   cases r with
   | ok n w' =>
    cases n <;> simp only[Oper.upon] at h ⊢
    case value u=>exact⟨keep a hy u,(Act.put_comm a v u h2)▸h⟩
    case skip=>exact⟨keep a hy _,(Act.put_comm a v undef h2)▸h⟩
    case defer d =>
     refine⟨keep _ (keepD d) _,?_⟩
     rw[←Act.put_comm _ v undef h2,←Act.put_defers]
     exact h
    case row=>exact Rows.mono h fun u w'' h=>⟨keep a hy u,(Act.put_comm a v u h2)▸h⟩
    case enter f args =>
     refine Calls.mono h fun e w'' he=>?_
     cases e with
     | returned u=>exact⟨keep a hy u,(Act.put_comm a v u h2)▸he⟩
     | panicked c=>exact hQ _ _ _ he
     | outgrown=>exact he
   | halt x w' =>
    simp only[Oper.upon] at h ⊢
    cases x <;> first | exact h | exact hQ _ _ _ h
  ·right
   exact⟨by unfold Oper.asks at *;rw[execOp_put oj hsj a oi.dst v h1] at ha;exact ha,hl⟩
 ·simp only[hw] at h ⊢
  exact⟨keep a hy _,(Act.put_comm a v undef h2)▸h⟩
theorem E_firstC {i:Nat} {oi:Oper} {v:Value} (hz:waitsB md ops z i=true) (hi:ops[i]?=some oi) (hsel:∀ (j:Nat) (o:Oper) cs b,ops[j]?=some o→o.op≠.select cs b)
  (hQ:∀ c a w,Q (.panic c) (a.put oi.dst v) w→Q (.panic c) a w) :
  ∀ (n:Nat) (listed:Array Bool) (a:Act) (w:World),
   (∀ j oj,ops[j]?=some oj→j≠i→listed.getD j true=false→(∀ e∈oj.after,Region.binds md e=true→e.on≠i)→oi.apart ops oj=true) →
   i∈Region.ready md ops listed→CallsV P ops S oi v a→S w →
   AnyE P md ops Q S z n (listed.setIfInBounds i true) (a.put oi.dst v) w→AnyE P md ops Q S z (n+1) listed a w:=by
 intro n
 induction n with
 | zero =>
  intro listed a w _ hr hy hS H
  constructor
  ·intro h;rw[h] at hr;cases hr
  ·intro j hj
   by_cases e:j=i
   ·rw[e];exact hy.wpOp hi hS (Or.inr ⟨hS,H⟩)
   ·have k:=ready_mono hj e
    rw[H.1] at k
    cases k
 | succ n ih =>
  intro listed a w hfree hr hy hS H
  constructor
  ·intro h;rw[h] at hr;cases hr
  ·intro j hj
   by_cases e:j=i
   ·rw[e];exact hy.wpOp hi hS (Or.inr ⟨hS,H⟩)
   ·have hjz:j≠z:=fun h=>waits_not_ready hz hr (h▸hj)
    have k1:=H.2 j (ready_mono hj e)
    obtain⟨un,oj,hoj,hall⟩:=mem_ready.1 hj
    have no:∀ x∈oj.after,Region.binds md x=true→x.on≠i:=fun x hx hb h=>by
     have h1:=hall x hx hb
     have h0:=(mem_ready.1 hr).1
     rw[h] at h1
     rcases Nat.lt_or_ge i listed.size with h' | h'
     ·simp[h'] at h0 h1;rw[h0] at h1;cases h1
     ·simp[Array.getElem?_eq_none h'] at h1
    have k2:=wpOp_putC hoj (hfree j oj hoj e un no) (fun cs b=>hsel i oi cs b hi) (fun cs b=>hsel j oj cs b hoj) hQ hy k1
    have fr:∀ m om,ops[m]?=some om→m≠i→(listed.setIfInBounds j true).getD m true=false→(∀ x∈om.after,Region.binds md x=true→x.on≠i)→oi.apart ops om=true:=fun m om hm hmi hun hno=>by
     refine hfree m om hm hmi ?_ hno
     by_cases q:j=m
     ·rw[←q];exact un
     ·rwa [getD_set_ne true q] at hun
    refine wpOp_mono (fun b V k3=>?_) k2
    have hSV:=k3.2.resolve_left fun h=>hjz h.1
    refine Or.inr ⟨hSV.1,ih (listed.setIfInBounds j true) b V fr (ready_mono hr (Ne.symm e)) k3.1 hSV.1 ?_⟩
    rw[Array.setIfInBounds_comm _ _ e]
    exact hSV.2
theorem E_callL {l:List Oper} {i:Nat} {oi:Oper} {v:Value} {n:Nat} {listed:Array Bool} {a:Act} {w:World} (hi:l[i]?=some oi) (hz:waitsB md l.toArray z i=true)
  (hs:Region.noSelect l.toArray=true) (hf:Region.free md l.toArray listed i=true) (hr:(Region.ready md l.toArray listed).contains i=true)
  (hQ:∀ c a w,Q (.panic c) (a.put oi.dst v) w→Q (.panic c) a w) (hw:Region.wanted oi (yielded l.toArray a.tmps)=true) (f:FuncId) (args:Array Value) (hy:∀ w,S w→(execOp a.eval oi).run P w=.ok (.enter f args) w)
  (hc:∀ w,S w→Calls P f args w (fun e w'=>e=.returned v∧w'=w)) (hS:S w)
  (h:AnyE P md l.toArray Q S z n (listed.setIfInBounds i true) (a.put oi.dst v) w):AnyE P md l.toArray Q S z (n+1) listed a w :=
 E_firstC hz (by simpa using hi) (Region.noSelect_spec hs) hQ n listed a w (Region.free_spec (by simpa using hi) hf) (by simpa using hr) ⟨hw,fun w hw'=>⟨f,args,hy w hw',hc w hw'⟩⟩ hS h
end
end Go.Proofs.PlaitSep
namespace Go.Proofs.YthbbmdnfkkffjaaGreat
open Go.RowKit Go.Proofs.PlaitSep Go.Proofs.PlaitPure Go.Proofs.PlaitSat
section
variable {B:Nat} {w0 w:World} {p:Nat} {M:MM} {F:HP}
def boxHP (b0:Nat) (r:Fl Nat) (d:Int):HP:=star (pt b0 123 [r.v,.int .i64 d]) (r.hp 98 vL)
theorem At.box_push {b0 n b' c' y:Nat} {r:Fl Nat} {d:Int} {w5:World} (hl:M.last.xs=[]→M.last.a=none) (hn:r.xs.length=n) (h:St B w0 w5 (star (sl (some b') (n+1) c' 98 1 (r.xs.map vL++[vL y])) (star (pt b0 123 [r.v,.int .i64 d]) (star (stars (parts p M)) F)))) :
  (w5.cell? ⟨b0,0,none⟩=some r.v∧w5.frozen? ⟨b0,0,none⟩=false)∧At B w0 (w5.setCell ⟨b0,0,none⟩ (.slice (some ⟨b',0,none⟩) (n+1) c')) p M (star (boxHP b0 ⟨some b',c',r.xs++[y]⟩ d) F):=by
 have h1:St B w0 w5 (star (pt b0 123 [r.v,.int .i64 d]) (star (sl (some b') (n+1) c' 98 1 (r.xs.map vL++[vL y])) (star (stars (parts p M)) F))):=h.conseq (by ac_rfl)
 refine⟨⟨h1.pt_cell 0,h1.pt_free 0⟩,?_,hl⟩
 have h2:=h1.pt_set 0 (.slice (some ⟨b',0,none⟩) (n+1) c')
 refine h2.conseq ?_
 unfold boxHP
 have e1:(Fl.mk (some b') c' (r.xs++[y])).v=.slice (some ⟨b',0,none⟩) (n+1) c':=by simp[Fl.v,hn]
 have e2:(Fl.mk (some b') c' (r.xs++[y])).hp 98 vL=sl (some b') (n+1) c' 98 1 (r.xs.map vL++[vL y]):=by simp[Fl.hp,hn]
 rw[e1,e2]
 simp only[List.set_cons_zero]
 ac_rfl
theorem At.box_row {b0:Nat} {r:Fl Nat} {d:Int} (h:At B w0 w p M (star (boxHP b0 r d) F)):St B w0 w (star (sl r.a r.xs.length r.c 98 1 (r.xs.map vL)) (star (pt b0 123 [r.v,.int .i64 d]) (star (stars (parts p M)) F))):=by
 refine h.st.conseq ?_
 unfold boxHP Fl.hp
 ac_rfl
theorem At.box_e {b0 j b x:Nat} {r:Fl Nat} {d:Int} (h:At B w0 w p M (star (boxHP b0 r d) F)) (hb:r.a=some b) (hj:r.xs[j]?=some x):w.cell? ⟨b,j,none⟩=some (.int .u32 x)∧w.frozen? ⟨b,j,none⟩=false:=by
 have h1:=h.box_row
 rw[hb] at h1
 exact⟨by rw[h1.sl_cell j (by rw[List.length_map];exact list_len_lt hj),List.getElem?_map,hj];rfl,h1.sl_free j⟩
theorem At.box_eset {b0 j b:Nat} {r:Fl Nat} {d:Int} (h:At B w0 w p M (star (boxHP b0 r d) F)) (hb:r.a=some b) (hj:j<r.xs.length) (x:Nat):At B w0 (w.setCell ⟨b,j,none⟩ (.int .u32 x)) p M (star (boxHP b0 ⟨r.a,r.c,r.xs.set j x⟩ d) F):=by
 have h1:=h.box_row
 rw[hb] at h1
 have h2:=h1.sl_set j (.int .u32 x) (by simpa using hj)
 refine⟨h2.conseq ?_,h.lastN⟩
 unfold boxHP Fl.hp
 simp only[Fl.v,List.length_set,List.map_set,hb]
 ac_rfl
theorem At.box_hd {b0:Nat} {r:Fl Nat} {d:Int} (h:At B w0 w p M (star (boxHP b0 r d) F)):w.cell? ⟨b0,0,none⟩=some r.v∧w.cell? ⟨b0,1,none⟩=some (.int .i64 d):=by
 have h1:=h.box_row
 have h2:St B w0 w (star (pt b0 123 [r.v,.int .i64 d]) (star (sl r.a r.xs.length r.c 98 1 (r.xs.map vL)) (star (stars (parts p M)) F))):=h1.conseq (by ac_rfl)
 exact⟨h2.pt_cell 0,h2.pt_cell 1⟩
theorem attach_value (S:SM) (c:List Nat) (d:Int):(S.attach c d).value=S.value:=by unfold SM.attach;split <;> rfl
theorem attach_level (S:SM) (c:List Nat) (d:Int):(S.attach c d).level=S.level:=by unfold SM.attach;split <;> rfl
theorem attach_reason (S:SM) (c:List Nat) (d:Int):(S.attach c d).reason=S.reason:=by unfold SM.attach;split <;> rfl
theorem attach_trail (S:SM) (c:List Nat) (d:Int):(S.attach c d).trail=S.trail:=by unfold SM.attach;split <;> rfl
set_option maxRecDepth 100000 in
set_option maxHeartbeats 4000000 in
theorem sbegin_any (id:Nat) (h:At B w0 w p M F) (hid:id<M.given.xs.length) (hgl:M.given.xs.length≤1000000) (hlits:∀ x∈gl M.sv.given id,x.natAbs≤65536) (hlen:(gl M.sv.given id).length≤1000000) (hk:LkOk M.sv) (hlv:∀ x∈gl M.sv.given id,packF x/2<M.value.xs.length) (hcn:M.cls.xs.length≤1000000) :
  Calls Tryz.prog 89 #[.pointer (some ⟨p,0,none⟩),.int .i64 id] w fun e w'=>e=.returned (.int .i64 (M.sv.begin_ id).2)∧∃ M',At B w0 w' p M' F∧M'.sv=(M.sv.begin_ id).1:=by
 obtain⟨rg,hrg⟩:∃ x,M.given.xs[id]?=some x:=⟨M.given.xs[id],by simp[hid]⟩
 obtain⟨bg,hbg⟩:=h.b_given (by omega)
 obtain⟨o1,_⟩:=h.o_given hbg hrg
 have c3:=h.c_given
 obtain⟨ng,hng⟩:∃ n,M.given.xs.length=n:=⟨_,rfl⟩
 obtain⟨n,hn⟩:∃ n,rg.xs.length=n:=⟨_,rfl⟩
 obtain⟨ra,hra⟩:∃ ra,(rg.a.map fun b=>(⟨b,0,none⟩:Addr))=ra:=⟨_,rfl⟩
 rw[hbg,hng] at c3
 rw[hn,hra] at o1
 simp only[Option.map_some] at c3
 have hgl2:gl M.sv.given id=rg.xs:=by show gl (M.given.xs.map (·.xs)) id=_;simp[gl,List.getD_eq_getElem?_getD,hrg]
 rw[hgl2] at hlits hlen hlv
 have HK:=Lib.hid hk
 have HCN:=Lib.hid hcn
 clear hcn
 have HLV:=Lib.hid hlv
 clear hk hlv
 rw[hn] at hlen
 rw[hng] at hid hgl
 obtain⟨b0,hb0⟩:∃ b0,w.heap.size=b0:=⟨_,rfl⟩
 have H:=Lib.hid h
 have HRG:=Lib.hid hrg
 have HBG:=Lib.hid hbg
 have HN:=Lib.hid hn
 have HRA:=Lib.hid hra
 have HNG:=Lib.hid hng
 have HLI:=Lib.hid hlits
 have HGL:=Lib.hid hgl2
 have d0:(0:Int)≤(id:Int):=by omega
 have d1:(id:Int)<(ng:Int):=by omega
 clear h hrg hbg hn hra hng hlits hgl2
 go_enter Tryz.func89,Tryz.ntmps89
 go_upto_region 2 with fail
 have h1:At B w0 (w.alloc (.cells #[.slice none 0 0,.int .i64 id] 123)) p M (star (boxHP b0 ⟨none,0,[]⟩ id) F):=by
  have h2:=H.out.box #[.slice none 0 0,.int .i64 id] 123
  rw[hb0] at h2
  refine h2.frame ?_
  unfold boxHP
  rw[show (⟨none,0,[]⟩:Fl Nat).hp 98 vL=emp from sl_empty _ _,star_emp]
  rfl
 revert h1
 generalize w.alloc (.cells #[.slice none 0 0,.int .i64 id] 123)=w1
 intro h1
 obtain⟨o1,_⟩:=h1.o_given HBG.out HRG.out
 have c3:=h1.c_given
 rw[HBG.out,HNG.out] at c3
 rw[HN.out,HRA.out] at o1
 simp only[Option.map_some] at c3
 have H1:=Lib.hid h1
 clear h1 hb0
 go_wp2
 clear o1 c3
 go_loopg [22] n (fun g s22 wr=>∃ (i:Nat) (r:Fl Nat),s22=.int .i64 i∧i≤n∧Hid (g=n-i)∧Hid (At B w0 wr p M (star (boxHP b0 r id) F))∧Hid (r.xs=(rg.xs.take i).map packF))
 case atStart=>exact⟨0,⟨none,0,[]⟩,rfl,Nat.zero_le _,rfl,H1.out,Lib.hid (by simp)⟩
 case round =>
  obtain⟨i,r,rfl,hin,hg,H2,HX⟩:=hrel
  have hrl:r.xs.length=i:=by rw[HX.out,List.length_map,List.length_take,HN.out];omega
  have hst:St B w0 wr (star (sl r.a i r.c 98 1 (r.xs.map vL)) (star (pt b0 123 [r.v,.int .i64 id]) (star (stars (parts p M)) F))):=by
   refine H2.out.st.conseq ?_
   unfold boxHP Fl.hp
   rw[hrl]
   ac_rfl
  have k1:=hst.conseq (show _=star (pt b0 123 [r.v,.int .i64 id]) (star (sl r.a i r.c 98 1 (r.xs.map vL)) (star (stars (parts p M)) F)) by ac_rfl)
  have hrv:r.v=.slice (r.a.map fun b=>⟨b,0,none⟩) i r.c:=by unfold Fl.v;rw[hrl]
  have k2:=k1.pt_cell 0
  simp only[List.getElem?_cons_zero] at k2
  rw[hrv] at k2
  have HST:=Lib.hid hst
  have HRL:=Lib.hid hrl
  have HRV:=Lib.hid hrv
  clear hst hrl hrv k1
  by_cases hil:i<n
  ·have e1:decide ((i:Int)<(n:Int))=true:=by simp;omega
   obtain⟨bb,hbb⟩:=(H2.out.rb_given HRG.out).1 (by rw[HN.out];omega)
   obtain rfl:ra=some ⟨bb,0,none⟩:=by rw[←HRA.out,hbb];rfl
   obtain⟨x,hx⟩:∃ x,gi rg.xs i=x:=⟨_,rfl⟩
   obtain⟨e2,_⟩:=H2.out.e_given HRG.out hbb (j:=i) (x:=x) (by rw[←hx,gi_eq _ _ (by rw[HN.out];exact hil)];exact List.getElem?_eq_getElem _)
   simp only[vI] at e2
   have hxl:=HLI.out x (by rw[←hx,gi_eq _ _ (by rw[HN.out];exact hil)];exact List.getElem_mem _)
   have HP:=Lib.hid (fun V=>pack_any x V (by omega) (by omega))
   have i0:(0:Int)≤(i:Int):=by omega
   have i1:(i:Int)<(n:Int):=by omega
   have HHX:=Lib.hid hx
   have HBB:=Lib.hid hbb
   have HXL:=Lib.hid hxl
   clear hx hbb hxl
   go_wp2
   have HPP:=Lib.hid (fun b' c' w5 hs=>At.box_push (M:=M) (F:=F) (p:=p) (B:=B) (w0:=w0) (b0:=b0) (n:=i) (b':=b') (c':=c') (y:=packF x) (r:=r) (d:=id) (w5:=w5) H.out.lastN HRL.out hs)
   have qb:∀ o,(wr.alloc o).cell? ⟨b0,0,none⟩=some (.slice (r.a.map fun b=>⟨b,0,none⟩) i r.c):=fun o=>(World.cell?_alloc_some _ _ _ (by rw[k2];rfl)).trans k2
   have i9:i≤1000000:=by omega
   refine wp_region_E 7 (fun V:World=>V.cell? ⟨b0,0,none⟩=some (.slice (r.a.map fun b=>⟨b,0,none⟩) i r.c)) (by kernel_rfl) ?_
   have HS0:(fun V:World=>V.cell? ⟨b0,0,none⟩=some (.slice (r.a.map fun b=>⟨b,0,none⟩) i r.c)) wr.drew:=k2
   refine E_takeL (i:=0) (v:=?v1) rfl (by kernel_rfl) (by kernel_rfl) (by kernel_rfl) (by kernel_rfl) (fun _ _ _ h=>h) rfl ?hy1 HS0 ?_
   case hy1 =>
    intro V hSV
    try dsimp only at hSV
    go_simp
    try with_reducible rfl
   try simp only[Act.put,List.setIfInBounds_toArray,List.set_cons_zero,List.set_cons_succ]
   refine E_takeL (i:=1) (v:=?v2) rfl (by kernel_rfl) (by kernel_rfl) (by kernel_rfl) (by kernel_rfl) (fun _ _ _ h=>h) rfl ?hy2 HS0 ?_
   case hy2 =>
    intro V hSV
    try dsimp only at hSV
    go_simp
    try with_reducible rfl
   try simp only[Act.put,List.setIfInBounds_toArray,List.set_cons_zero,List.set_cons_succ]
   refine E_takeL (i:=2) (v:=?v3) rfl (by kernel_rfl) (by kernel_rfl) (by kernel_rfl) (by kernel_rfl) (fun _ _ _ h=>h) rfl ?hy3 HS0 ?_
   case hy3 =>
    intro V hSV
    try dsimp only at hSV
    go_simp
    try with_reducible rfl
   try simp only[Act.put,List.setIfInBounds_toArray,List.set_cons_zero,List.set_cons_succ]
   refine E_callL (i:=3) (v:=.int .u32 (packF x)) rfl (by kernel_rfl) (by kernel_rfl) (by kernel_rfl) (by kernel_rfl) (fun _ _ _ h=>h) rfl 67 #[.int .i64 x] ?hyc (fun V _=>(HP.out V).mono fun e w' h=>⟨h.1,h.2.symm⟩) HS0 ?_
   case hyc =>
    intro V hSV
    go_simp
    try with_reducible rfl
   try simp only[Act.put,List.setIfInBounds_toArray,List.set_cons_zero,List.set_cons_succ]
   refine E_onlyL (i:=4) (by kernel_rfl) rfl (fun K hK=>?_)
   go_simp
   refine hK _ _ (qb _) ?_
   clear hK K
   try simp only[Act.put,List.setIfInBounds_toArray,List.set_cons_zero,List.set_cons_succ]
   refine E_onlyL (i:=5) (by kernel_rfl) rfl (fun K hK=>?_)
   refine step_append1 (by rfl) _ _ 85 98 (.int .u32 0) 4 (by rfl) Tryz.underlying85 Tryz.infoLit rfl (HST.out.drew.alloc _) (by rfl) wr.heap.size (.int .u32 (packF x)) (by rfl) (cell_new wr.drew _ _) rfl (by omega) (by simp only[maxLen];omega) ?_
   intro b' c' w5 h6 _
   obtain⟨⟨k3,k4⟩,k5⟩:=HPP.out _ _ _ h6
   rw[HRV.out] at k3
   have K5:=Lib.hid k5
   clear k5 h6
   have HS2:(fun V:World=>V.cell? ⟨b0,0,none⟩=some (.slice (r.a.map fun b=>⟨b,0,none⟩) i r.c)) _:=k3
   refine hK _ _ HS2 ?_
   clear hK K
   try simp only[Act.put,List.setIfInBounds_toArray,List.set_cons_zero,List.set_cons_succ]
   refine E_takeL (i:=6) (v:=?v4) rfl (by kernel_rfl) (by kernel_rfl) (by kernel_rfl) (by kernel_rfl) (fun _ _ _ h=>h) rfl ?hy4 HS2 ?_
   case hy4 =>
    intro V hSV
    try dsimp only at hSV
    go_simp
    try with_reducible rfl
   try simp only[Act.put,List.setIfInBounds_toArray,List.set_cons_zero,List.set_cons_succ]
   refine E_lastL (by kernel_rfl) rfl (by kernel_rfl) (fun K hK=>?_)
   go_simp
   refine hK _ _ ?_
   clear hK K
   clear k3 k4 k2 qb HS0 HS2 HPP HST
   go_wp2
   go_roundg (n-(i+1))
   case measure=>have:=hg.out;omega
   case rel=>exact⟨i+1,⟨some b',c',r.xs++[packF x]⟩,by go_num,by omega,rfl,K5.out,Lib.hid (by rw[HX.out,List.take_succ_eq_append_getElem (show i<rg.xs.length by rw[HN.out];exact hil),List.map_append,←gi_eq _ _ (show i<rg.xs.length by rw[HN.out];exact hil),HHX.out];rfl)⟩
  ·obtain rfl:i=n:=by omega
   have e1:decide ((i:Int)<(i:Int))=false:=by simp
   have hxs:r.xs=rg.xs.map packF:=by rw[HX.out,List.take_of_length_le (by rw[HN.out];exact Nat.le_refl _)]
   have HXS:=Lib.hid hxs
   have HB0:=Lib.hid (show M.sv.begins id=M.sv.sortGo i r.xs 0 by unfold SM.begins;rw[HGL.out,HN.out,hxs])
   obtain⟨rA,hrA⟩:∃ rA,(r.a.map fun b=>(⟨b,0,none⟩:Addr))=rA:=⟨_,rfl⟩
   rw[hrA] at k2
   have HRA2:=Lib.hid hrA
   clear hxs hrA HX HST
   go_wp2
   clear k2
   go_loopg [8,37] i (fun g s8 s37 wr=>∃ (j m:Nat) (cs:List Nat),s8=.int .i64 m∧s37=.int .i64 j∧m≤j∧j≤i∧cs.length=i∧Hid (∀ x∈cs,x/2<M.value.xs.length)∧Hid (g=i-j)∧Hid (At B w0 wr p M (star (boxHP b0 ⟨r.a,r.c,cs⟩ id) F))∧Hid (M.sv.sortGo (i-j) cs m=M.sv.begins id))
   case atStart=>exact⟨0,0,r.xs,rfl,rfl,Nat.le_refl _,Nat.zero_le _,HRL.out,Lib.hid (fun y hy=>by rw[HXS.out] at hy;obtain⟨q,hq,rfl⟩:=List.mem_map.1 hy;exact HLV.out q hq),rfl,H2.out,Lib.hid HB0.out.symm⟩
   case round =>
    obtain⟨j,m,cs,rfl,rfl,hmj,hji,hcl,HCV,hg2,H3,HS⟩:=hrel
    by_cases hjl:j<i
    ·have e3:decide ((j:Int)<(i:Int))=true:=by simp;omega
     obtain⟨b,hb⟩:∃ b,r.a=some b:=by
      obtain⟨_,_,_,hnone,_⟩:=H3.out.box_row.sat.sl_facts
      cases e:r.a with
      | none=>have h9:=(hnone e).1;have h8:cs.length=0:=h9;omega
      | some b=>exact⟨b,rfl⟩
     obtain rfl:rA=some ⟨b,0,none⟩:=by rw[←HRA2.out,hb];rfl
     obtain⟨k1,f1⟩:=H3.out.box_e hb (j:=j) (x:=gn cs j) (gn_some cs j (by omega))
     have hyv:=HCV.out _ (gn_mem cs j (by omega))
     have HIS:=Lib.hid (sis_any (gn cs j) H3.out hyv HK.out.small (HK.out.val _))
     obtain⟨y,hy⟩:∃ y,gn cs j=y:=⟨_,rfl⟩
     rw[hy] at k1 HIS hyv
     obtain⟨sy,hsy⟩:∃ s,M.sv.isL y=s:=⟨_,rfl⟩
     rw[hsy] at HIS
     have hss:=HS.out
     rw[show i-j=(i-(j+1))+1 by omega,SM.sortGo,show cs.length-(i-(j+1)+1)=j by omega,hy,hsy] at hss
     have HSS:=Lib.hid hss
     have HY:=Lib.hid hy
     have HSY:=Lib.hid hsy
     have HB:=Lib.hid hb
     have j0:(0:Int)≤(j:Int):=by omega
     have j1:(j:Int)<(i:Int):=by omega
     clear hss hy hsy hb HS f1
     go_wp2_with fail
     refine HIS.out.mono ?_
     rintro e w3 ⟨rfl,hd⟩
     have H4:=Lib.hid (H3.out.drawn hd)
     clear hd HIS k1
     by_cases hs:0≤sy
     ·have e6:decide (0≤sy)=true:=by simpa using hs
      obtain⟨k2,f2⟩:=H4.out.box_e HB.out (j:=m) (x:=gn cs m) (gn_some cs m (by omega))
      obtain⟨k3,f3⟩:=H4.out.box_e HB.out (j:=j) (x:=y) (by rw[gn_some cs j (by omega),HY.out])
      obtain⟨ym,hym⟩:∃ ym,gn cs m=ym:=⟨_,rfl⟩
      rw[hym] at k2
      have k0:=H4.out.box_hd.1
      rw[show (⟨r.a,r.c,cs⟩:Fl Nat).v=.slice (some ⟨b,0,none⟩) i r.c by unfold Fl.v;rw[hcl,HRA2.out]] at k0
      have h5:=(((H4.out.box_eset HB.out (j:=j) (by show j<cs.length;omega) ym).box_eset HB.out (j:=m) (by show m<(cs.set j ym).length;rw[List.length_set];omega) y).drewN 1)
      have H5:=Lib.hid h5
      have HYM:=Lib.hid hym
      have nbb:¬ b=b0:=by
       have h9:=H4.out.box_row
       rw[HB.out] at h9
       have h8:St B w0 w3 (star (pt b0 123 [(⟨some b,r.c,cs⟩:Fl Nat).v,.int .i64 id]) (star (sl (some b) cs.length r.c 98 1 (cs.map vL)) (star (stars (parts p M)) F))):=h9.conseq (by dsimp only;ac_rfl)
       exact fun e=>h8.sat.pt_sl_ne e.symm
      have m0:(0:Int)≤(m:Int):=by omega
      have m1:(m:Int)<(i:Int):=by omega
      clear h5 hym
      by_cases hjm:j=m
      ·subst hjm
       obtain rfl:ym=y:=HYM.out.symm.trans HY.out
       go_wp2
       go_region
       go_wp2
       go_roundg (i-(j+1))
       case measure=>have:=hg2.out;omega
       case rel=>exact⟨j+1,j+1,(cs.set j ym).set j ym,by go_num,by go_num,by omega,by omega,by rw[List.length_set,List.length_set];exact hcl,Lib.hid (fun q hq=>by rw[←HYM.out] at hq;exact HCV.out q (swap_mem (c:=cs) (i:=j) (j:=j) (by omega) (by omega) hq)),rfl,H5.out,Lib.hid (by have h9:=HSS.out;rw[if_pos hs] at h9;unfold SM.swapN at h9;rw[HYM.out] at h9;exact h9)⟩
      ·have hjm2:¬ m=j:=fun h=>hjm h.symm
       go_wp2
       go_region
       go_wp2
       go_roundg (i-(j+1))
       case measure=>have:=hg2.out;omega
       case rel=>exact⟨j+1,m+1,(cs.set j ym).set m y,by go_num,by go_num,by omega,by omega,by rw[List.length_set,List.length_set];exact hcl,Lib.hid (fun q hq=>by rw[←HYM.out,←HY.out] at hq;exact HCV.out q (swap_mem (c:=cs) (i:=j) (j:=m) (by omega) (by omega) hq)),rfl,H5.out,Lib.hid (by have h9:=HSS.out;rw[if_pos hs] at h9;unfold SM.swapN at h9;rw[HYM.out,HY.out] at h9;exact h9)⟩
     ·have e6:decide (0≤sy)=false:=by simpa using hs
      go_wp2
      go_roundg (i-(j+1))
      case measure=>have:=hg2.out;omega
      case rel=>exact⟨j+1,m,cs,rfl,by go_num,by omega,by omega,hcl,HCV,rfl,H4.out,Lib.hid (by have h9:=HSS.out;rw[if_neg (by omega)] at h9;exact h9)⟩
    ·obtain rfl:j=i:=by omega
     have e3:decide ((j:Int)<(j:Int))=false:=by simp
     have hbeg:M.sv.begins id=(cs,m):=by have h9:=HS.out;rw[Nat.sub_self] at h9;exact h9.symm
     have HBG2:=Lib.hid hbeg
     obtain⟨q0,q1⟩:=H3.out.box_hd
     rw[show (⟨r.a,r.c,cs⟩:Fl Nat).v=.slice rA j r.c by unfold Fl.v;rw[hcl,HRA2.out]] at q0
     have hfr:At B w0 wr p M (star ((⟨r.a,r.c,cs⟩:Fl Nat).hp 98 vL) (star (pt b0 123 [.slice rA j r.c,.int .i64 id]) F)):=by
      refine H3.out.frame ?_
      unfold boxHP
      rw[show (⟨r.a,r.c,cs⟩:Fl Nat).v=.slice rA j r.c by unfold Fl.v;rw[hcl,HRA2.out]]
      ac_rfl
     have hwl:M.watches.xs.length=2*M.value.xs.length:=by
      have h7b:(M.watches.xs.map (·.xs)).length=2*M.value.xs.length:=HK.out.sz.watches
      simpa using h7b
     have hvl:M.value.xs.length≤100000:=HK.out.small
     have HA:=Lib.hid (attach_any ⟨r.a,r.c,cs⟩ id hfr HCN.out (fun x hx=>HK.out.rows _ (List.mem_map.2 ⟨x,hx,rfl⟩)) (fun x hx=>by have h8:=HCV.out x hx;omega) (by omega) (by show cs.length≤_;omega))
     clear hwl hvl
     rw[show (⟨r.a,r.c,cs⟩:Fl Nat).v=.slice rA j r.c by unfold Fl.v;rw[hcl,HRA2.out]] at HA
     clear hfr hbeg HS hg2 hg
     go_wp2_with fail
     refine HA.out.mono ?_
     rintro e w3 ⟨rfl,M3,hM3,hsv3,hcls3⟩
     obtain⟨nc,hnc⟩:∃ nc,M.cls.xs.length=nc:=⟨_,rfl⟩
     rw[hnc]
     have H4:=Lib.hid hM3
     have HSV:=Lib.hid hsv3
     have HCL:=Lib.hid hcls3
     have HNC:=Lib.hid hnc
     clear hM3 hsv3 hcls3 hnc HA q0 q1
     have hcl2:M.sv.cls.length=nc:=by show (M.cls.xs.map _).length=nc;rw[List.length_map];exact HNC.out
     have HCL2:=Lib.hid hcl2
     clear hcl2
     by_cases hm0:m=0
     ·subst hm0
      have e5:decide (((0:Nat):Int)=0)=true:=by simp
      have HE:=Lib.hid (show M.sv.begin_ id=(M3.sv,(nc:Int)) by unfold SM.begin_;rw[HBG2.out,HSV.out,if_pos rfl,HCL2.out])
      go_wp2
      go_ret
      exact⟨by rw[HE.out];rfl,M3,H4.out.dropF,by rw[HE.out]⟩
     ·have e5:decide ((m:Int)=0)=false:=by simp;omega
      by_cases hm1:m=1
      ·subst hm1
       have e6:decide (((1:Nat):Int)=1)=true:=by simp
       have hj:0<j:=by omega
       obtain⟨b,hb⟩:∃ b,r.a=some b:=by
        have hr3:M3.cls.xs[nc]?=some (⟨r.a,r.c,cs⟩,(id:Int)):=by rw[HCL.out,←HNC.out];simp
        obtain⟨b,hb⟩:=(H4.out.rb_cls hr3).1 (by show 0<cs.length;omega)
        exact⟨b,hb⟩
       obtain rfl:rA=some ⟨b,0,none⟩:=by rw[←HRA2.out,hb];rfl
       have hr3:M3.cls.xs[nc]?=some (⟨r.a,r.c,cs⟩,(id:Int)):=by rw[HCL.out,←HNC.out];simp
       have hc3:=H4.out.box_cell 0
       simp only[List.getElem?_cons_zero] at hc3
       obtain⟨k1,_⟩:=H4.out.e_cls hr3 hb (j:=0) (x:=gn cs 0) (gn_some cs 0 (by omega))
       obtain⟨y,hy⟩:∃ y,gn cs 0=y:=⟨_,rfl⟩
       rw[hy] at k1
       obtain⟨k2,_⟩:=hc3
       have hv3:M3.value.xs=M.value.xs:=by have h9:=congrArg SM.value HSV.out;rw[attach_value] at h9;exact h9
       have hyv:y/2<M3.value.xs.length:=by rw[hv3,←hy];exact HCV.out _ (gn_mem cs 0 (by omega))
       have HIS:=Lib.hid (sis_any y H4.out hyv (by rw[hv3];exact HK.out.small) (by rw[hv3];exact HK.out.val _))
       obtain⟨sy,hsy⟩:∃ s,M3.sv.isL y=s:=⟨_,rfl⟩
       rw[hsy] at HIS
       have HSY:=Lib.hid hsy
       have HY:=Lib.hid hy
       have HYV:=Lib.hid hyv
       have HR3:=Lib.hid hr3
       have HB:=Lib.hid hb
       have HV3:=Lib.hid hv3
       have j0:(0:Int)<(j:Int):=by omega
       clear hr3 hv3 hsy hy hyv hb
       go_wp2_with fail
       refine HIS.out.mono ?_
       rintro e w4 ⟨rfl,hd⟩
       have h5:=H4.out.drawn hd
       have hc5:=h5.box_cell 0
       simp only[List.getElem?_cons_zero] at hc5
       obtain⟨k3,_⟩:=hc5
       obtain⟨k4,_⟩:=h5.e_cls HR3.out HB.out (j:=0) (x:=gn cs 0) (gn_some cs 0 (by omega))
       rw[HY.out] at k4
       have H5:=Lib.hid h5
       clear hd h5 k1 k2 HIS
       by_cases hs0:sy=0
       ·subst hs0
        have e7:decide ((0:Int)=0)=true:=by simp
        have hl3:M3.level.xs.length=M3.value.xs.length:=by
         have h9:=congrArg SM.level HSV.out
         rw[attach_level] at h9
         have h8:M3.level.xs=M.level.xs:=h9
         rw[h8,HV3.out];exact HK.out.sz.level
        have hr3:M3.reason.xs.length=M3.value.xs.length:=by
         have h9:=congrArg SM.reason HSV.out
         rw[attach_reason] at h9
         have h8:M3.reason.xs=M.reason.xs:=h9
         rw[h8,HV3.out];exact HK.out.sz.reason
        have ht3:M3.trail.xs.length≤1000000:=by
         have h9:=congrArg SM.trail HSV.out
         rw[attach_trail] at h9
         have h8:M3.trail.xs=M.trail.xs:=h9
         have h7:M.trail.xs.length≤900000:=HK.out.trail
         rw[h8];omega
        have HS:=Lib.hid (set_any y nc H5.out HYV.out hl3 hr3 (by rw[HV3.out];exact HK.out.small) ht3)
        clear hl3 hr3 ht3
        go_wp2_with fail
        refine HS.out.mono ?_
        rintro e w5 ⟨rfl,a1,a2,a3,a4,h6,h7⟩
        have HE:=Lib.hid (show M.sv.begin_ id=(M3.sv.setL y nc,(-1:Int)) by
         unfold SM.begin_
         rw[HBG2.out,if_neg (show ¬ ((1:Nat)=0) by decide)]
         dsimp only
         rw[HY.out,←HSV.out,HSY.out,HCL2.out]
         rfl)
        have H6:=Lib.hid h6
        have H7:=Lib.hid h7
        clear h6 h7 HS
        go_wp2
        go_ret
        exact⟨by rw[HE.out];rfl,_,H6.out.dropF,by rw[HE.out];exact H7.out⟩
       ·have e7:decide (sy=0)=false:=by simpa using hs0
        have HE:=Lib.hid (show M.sv.begin_ id=(M3.sv,(-1:Int)) by
         unfold SM.begin_
         rw[HBG2.out,if_neg (show ¬ ((1:Nat)=0) by decide)]
         dsimp only
         rw[HY.out,←HSV.out,HSY.out]
         have:(sy==0)=false:=by simpa using hs0
         rw[this]
         rfl)
        go_wp2
        go_ret
        exact⟨by rw[HE.out];rfl,M3,H5.out.dropF,by rw[HE.out]⟩
      ·have e6:decide ((m:Int)=1)=false:=by simp;omega
       have HE:=Lib.hid (show M.sv.begin_ id=(M3.sv,(-1:Int)) by unfold SM.begin_;rw[HBG2.out,HSV.out,if_neg hm0];simp[hm1])
       go_wp2
       go_ret
       exact⟨by rw[HE.out];rfl,M3,H4.out.dropF,by rw[HE.out]⟩
end
end Go.Proofs.YthbbmdnfkkffjaaGreat
namespace Go.Proofs.YthbbmdnfkkffjaaGreat
open Go.RowKit Go.Proofs.PlaitSep Go.Proofs.PlaitPure Go.Proofs.PlaitSat
section
variable {B:Nat} {w0 w:World} {p:Nat} {M:MM} {F:HP}
theorem At.new1 (h:At B w0 w p M F) (x:Value) (e:TypeId):At B w0 (w.alloc (.cells #[x] e)) p M (star (sl (some w.heap.size) 1 1 e 1 [x]) F):=by
 have h1:=h.box #[x] e
 have h2:St B w0 (w.alloc (.cells #[x] e)) (star (pt w.heap.size e [x]) (star (stars (parts p M)) F)):=h1.st.conseq (by ac_rfl)
 have h3:St B w0 (w.alloc (.cells #[x] e)) (star (sl (some w.heap.size) 1 1 e 1 [x]) (star (stars (parts p M)) F)) :=
  ⟨h2.below,h2.base,h2.sat.pt_sl (by simp) (Nat.le_refl _) (by simp only[maxLen];omega) (by simp) (by simp)⟩
 exact⟨h3.conseq (by ac_rfl),h.lastN⟩
theorem At.rowF {P:HP} (h:At B w0 w p M (star P F)):St B w0 w (star P (star (stars (parts p M)) F)):=h.st.conseq (by ac_rfl)
theorem At.unrowF {P:HP} (h:St B w0 w (star P (star (stars (parts p M)) F))) (hl:M.last.xs=[]→M.last.a=none):At B w0 w p M (star P F):=⟨h.conseq (by ac_rfl),hl⟩
theorem At.frow {α:Type} {e:TypeId} {enc:α→Value} {r:Fl α} {n:Nat} (h:At B w0 w p M (star (r.hp e enc) F)) (hn:r.xs.length=n):St B w0 w (star (sl r.a n r.c e 1 (r.xs.map enc)) (star (stars (parts p M)) F)):=by
 subst hn
 exact h.st.conseq (by unfold Fl.hp;ac_rfl)
theorem At.frow_b {α:Type} {e:TypeId} {enc:α→Value} {r:Fl α} (h:At B w0 w p M (star (r.hp e enc) F)) (hi:0<r.xs.length):∃ b,r.a=some b:=by
 obtain⟨_,_,_,hn,_⟩:=(h.frow rfl).sat.sl_facts
 cases e:r.a with
 | none=>have:=(hn e).1;omega
 | some b=>exact⟨b,rfl⟩
theorem At.frow_e {α:Type} {e:TypeId} {enc:α→Value} {r:Fl α} (h:At B w0 w p M (star (r.hp e enc) F)) {b j:Nat} (hb:r.a=some b) {x:α} (hj:r.xs[j]?=some x):w.cell? ⟨b,j,none⟩=some (enc x)∧w.frozen? ⟨b,j,none⟩=false:=by
 have h1:=h.frow rfl
 rw[hb] at h1
 exact⟨by rw[h1.sl_cell j (by rw[List.length_map];exact list_len_lt hj),List.getElem?_map,hj];rfl,h1.sl_free j⟩
theorem At.fset {α:Type} {e:TypeId} {enc:α→Value} {r:Fl α} (h:At B w0 w p M (star (r.hp e enc) F)) {b i:Nat} (hb:r.a=some b) (hi:i<r.xs.length) (x:α):At B w0 (w.setCell ⟨b,i,none⟩ (enc x)) p M (star ((⟨r.a,r.c,r.xs.set i x⟩:Fl α).hp e enc) F):=by
 have h1:=h.frow rfl
 rw[hb] at h1
 have h2:=h1.sl_set i (enc x) (by simpa using hi)
 refine⟨h2.conseq ?_,h.lastN⟩
 unfold Fl.hp
 simp only[List.length_set,List.map_set,hb]
 ac_rfl
theorem At.fpush {α:Type} {e:TypeId} {enc:α→Value} {r:Fl α} {x:α} {b' n c':Nat} (hl:M.last.xs=[]→M.last.a=none) (hn:r.xs.length=n)
  (h:St B w0 w (star (sl (some b') (n+1) c' e 1 (r.xs.map enc++[enc x])) (star (stars (parts p M)) F))):At B w0 w p M (star ((⟨some b',c',r.xs++[x]⟩:Fl α).hp e enc) F):=by
 subst hn
 refine⟨h.conseq ?_,hl⟩
 unfold Fl.hp
 simp only[List.length_append,List.length_singleton,List.map_append,List.map_cons,List.map_nil]
 ac_rfl
end
end Go.Proofs.YthbbmdnfkkffjaaGreat

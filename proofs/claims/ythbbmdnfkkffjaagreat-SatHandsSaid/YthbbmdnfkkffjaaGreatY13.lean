/-
  Parts of the proof, joined by program: RegC, Beg, Row.
-/
import Derived.Test.YthbbmdnfkkffjaaGreatY10
import Derived.Test.YthbbmdnfkkffjaaGreatY08
import Derived.Test.YthbbmdnfkkffjaaGreatY12
import Derived.Test.YthbbmdnfkkffjaaGreatY01
import Derived.Still
import Derived.Lib.Hide
set_option maxHeartbeats 8000000
set_option maxRecDepth 100000
namespace Go.Proofs.aC
open Go
section
variable {P:Program} {ops:Array Oper} {Q:Exit→Act→World→Prop} {md:Region.Mode} {S:World→Prop} {z:Nat}
def mG (P:Program) (ops:Array Oper) (S:World→Prop) (o:Oper) (v:Value) (a:Act):Prop :=
 Region.wanted o (yielded ops a.tmps)=true∧∀ w,S w→∃ f args,(execOp a.eval o).run P w=.ok (.enter f args) w∧Calls P f args w (fun e w'=>e=.returned v∧w'=w)
theorem mG.wpOp {i:Nat} {o:Oper} {v:Value} {a:Act} (hi:ops[i]?=some o) (hy:mG P ops S o v a) {K:Act→World→Prop} {w:World} (hS:S w) (h:K (a.put o.dst v) w):wpOp P ops Q i K a w:=by
 obtain⟨hw,hv⟩:=hy;obtain⟨f,args,hr,hc⟩:=hv w hS;refine wpOp_step hi fun K' hK=>?_;rw[if_pos hw];unfold Oper.wp;rw[hr];simp only[Oper.upon];exact hc.mono fun e w' ⟨he,hw'⟩=>by subst he;subst hw';exact hK _ _ h
theorem mG.of_same {o:Oper} {v:Value} {a a':Act} (hy:mG P ops S o v a) (he:execOp a'.eval o=execOp a.eval o) (hw:Region.wanted o (yielded ops a'.tmps)=Region.wanted o (yielded ops a.tmps)):mG P ops S o v a':=by
 unfold mG at *;rw[he,hw];exact hy
theorem UR {j:Nat} {oi oj:Oper} {v:Value} (hj:ops[j]?=some oj) (hap:oi.apart ops oj=true) (hsi:∀ cs b,oi.op≠.select cs b) (hsj:∀ cs b,oj.op≠.select cs b)
  (hQ:∀ c a w,Q (.panic c) (a.put oi.dst v) w→Q (.panic c) a w) {K:Act→World→Prop} {a:Act} {w:World} (hy:mG P ops S oi v a) (h:wpOp P ops Q j K (a.put oi.dst v) w) :
  wpOp P ops Q j (fun a' w'=>mG P ops S oi v a'∧K (a'.put oi.dst v) w') a w:=by
 obtain⟨h1,h2,h3⟩:=Oper.apart_spec hap;have keep:∀ (a:Act),mG P ops S oi v a→∀ u,mG P ops S oi v (a.put oj.dst u):=fun a hy u=>hy.of_same (execOp_put oi hsi a oj.dst u h3) (wanted_put oi a oj.dst u h3);have keepD:∀ d,mG P ops S oi v { a with defers:=d :: a.defers }:=fun d=>hy.of_same rfl rfl;unfold Go.wpOp at *;simp only[hj] at *;rw[wanted_put oj a oi.dst v h1] at h
 by_cases hw:Region.wanted oj (yielded ops a.tmps)=true
 ·simp only[hw,if_true] at h ⊢;rcases h with h | ⟨ha,hl⟩
  ·left;unfold Oper.wp at *;rw[execOp_put oj hsj a oi.dst v h1] at h;revert h;generalize (execOp a.eval oj).run P w=r;intro h
   cases r with
   | ok n w' =>
    cases n <;> simp only[Oper.upon] at h ⊢
    case value u=>exact⟨keep a hy u,(Act.put_comm a v u h2)▸h⟩
    case skip=>exact⟨keep a hy _,(Act.put_comm a v undef h2)▸h⟩
    case defer d =>
     refine⟨keep _ (keepD d) _,?_⟩;rw[←Act.put_comm _ v undef h2,←Act.put_defers];exact h
    case row=>exact Rows.mono h fun u w'' h=>⟨keep a hy u,(Act.put_comm a v u h2)▸h⟩
    case enter f args =>
     refine Calls.mono h fun e w'' he=>?_
     cases e with
     | returned u=>exact⟨keep a hy u,(Act.put_comm a v u h2)▸he⟩
     | panicked c=>exact hQ _ _ _ he
     | outgrown=>exact he
   | halt x w' =>
    simp only[Oper.upon] at h ⊢
    cases x <;> first | exact h | exact hQ _ _ _ h
  ·right;exact⟨by unfold Oper.asks at *;rw[execOp_put oj hsj a oi.dst v h1] at ha;exact ha,hl⟩
 ·simp only[hw] at h ⊢;exact⟨keep a hy _,(Act.put_comm a v undef h2)▸h⟩
theorem WX {i:Nat} {oi:Oper} {v:Value} (hz:yx md ops z i=true) (hi:ops[i]?=some oi) (hsel:∀ (j:Nat) (o:Oper) cs b,ops[j]?=some o→o.op≠.select cs b)
  (hQ:∀ c a w,Q (.panic c) (a.put oi.dst v) w→Q (.panic c) a w) :
  ∀ (n:Nat) (listed:Array Bool) (a:Act) (w:World),
   (∀ j oj,ops[j]?=some oj→j≠i→listed.getD j true=false→(∀ e∈oj.after,Region.binds md e=true→e.on≠i)→oi.apart ops oj=true) →
   i∈Region.ready md ops listed→mG P ops S oi v a→S w →
   AnyE P md ops Q S z n (listed.setIfInBounds i true) (a.put oi.dst v) w→AnyE P md ops Q S z (n+1) listed a w:=by
 intro n
 induction n with
 | zero =>
  intro listed a w _ hr hy hS H
  constructor
  ·intro h;rw[h] at hr;cases hr
  ·intro j hj
   by_cases e:j=i
   ·rw[e];exact hy.wpOp hi hS (Or.inr ⟨hS,H⟩)
   ·have k:=ready_mono hj e;rw[H.1] at k
    cases k
 | succ n ih =>
  intro listed a w hfree hr hy hS H
  constructor
  ·intro h;rw[h] at hr;cases hr
  ·intro j hj
   by_cases e:j=i
   ·rw[e];exact hy.wpOp hi hS (Or.inr ⟨hS,H⟩)
   ·have hjz:j≠z:=fun h=>tN hz hr (h▸hj);have k1:=H.2 j (ready_mono hj e);obtain⟨un,oj,hoj,hall⟩:=mem_ready.1 hj
    have no:∀ x∈oj.after,Region.binds md x=true→x.on≠i:=fun x hx hb h=>by
     have h1:=hall x hx hb;have h0:=(mem_ready.1 hr).1;rw[h] at h1;rcases Nat.lt_or_ge i listed.size with h' | h'
     ·simp[h'] at h0 h1;rw[h0] at h1;cases h1
     ·simp[Array.getElem?_eq_none h'] at h1
    have k2:=UR hoj (hfree j oj hoj e un no) (fun cs b=>hsel i oi cs b hi) (fun cs b=>hsel j oj cs b hoj) hQ hy k1
    have fr:∀ m om,ops[m]?=some om→m≠i→(listed.setIfInBounds j true).getD m true=false→(∀ x∈om.after,Region.binds md x=true→x.on≠i)→oi.apart ops om=true:=fun m om hm hmi hun hno=>by
     refine hfree m om hm hmi ?_ hno
     by_cases q:j=m
     ·rw[←q];exact un
     ·rwa [getD_set_ne true q] at hun
    refine wpOp_mono (fun b V k3=>?_) k2;have aF:=k3.2.resolve_left fun h=>hjz h.1;refine Or.inr ⟨aF.1,ih (listed.setIfInBounds j true) b V fr (ready_mono hr (Ne.symm e)) k3.1 aF.1 ?_⟩;rw[Array.setIfInBounds_comm _ _ e];exact aF.2
theorem Tq {l:List Oper} {i:Nat} {oi:Oper} {v:Value} {n:Nat} {listed:Array Bool} {a:Act} {w:World} (hi:l[i]?=some oi) (hz:yx md l.toArray z i=true)
  (hs:Region.noSelect l.toArray=true) (hf:Region.free md l.toArray listed i=true) (hr:(Region.ready md l.toArray listed).contains i=true)
  (hQ:∀ c a w,Q (.panic c) (a.put oi.dst v) w→Q (.panic c) a w) (hw:Region.wanted oi (yielded l.toArray a.tmps)=true) (f:FuncId) (args:Array Value) (hy:∀ w,S w→(execOp a.eval oi).run P w=.ok (.enter f args) w)
  (hc:∀ w,S w→Calls P f args w (fun e w'=>e=.returned v∧w'=w)) (hS:S w)
  (h:AnyE P md l.toArray Q S z n (listed.setIfInBounds i true) (a.put oi.dst v) w):AnyE P md l.toArray Q S z (n+1) listed a w :=
 WX hz (by simpa using hi) (Region.noSelect_spec hs) hQ n listed a w (Region.free_spec (by simpa using hi) hf) (by simpa using hr) ⟨hw,fun w hw'=>⟨f,args,hy w hw',hc w hw'⟩⟩ hS h
end
end Go.Proofs.aC
namespace Go.Proofs.YthbbmdnfkkffjaaGreat
open Go.RowKit Go.Proofs.aC Go.Proofs.au Go.Proofs.aA
section
variable {B:Nat} {w0 w:World} {p:Nat} {M:MM} {F:HP}
def nP (b0:Nat) (r:Fl Nat) (d:Int):HP:=star (pt b0 123 [r.v,.int .i64 d]) (r.hp 98 vL)
theorem At.WY {b0 n b' c' y:Nat} {r:Fl Nat} {d:Int} {w5:World} (hl:M.last.xs=[]→M.last.a=none) (hn:r.xs.length=n) (h:St B w0 w5 (star (sl (some b') (n+1) c' 98 1 (r.xs.map vL++[vL y])) (star (pt b0 123 [r.v,.int .i64 d]) (star (stars (parts p M)) F)))) :
  (w5.cell? ⟨b0,0,none⟩=some r.v∧w5.frozen? ⟨b0,0,none⟩=false)∧At B w0 (w5.setCell ⟨b0,0,none⟩ (.slice (some ⟨b',0,none⟩) (n+1) c')) p M (star (nP b0 ⟨some b',c',r.xs++[y]⟩ d) F):=by
 have h1:St B w0 w5 (star (pt b0 123 [r.v,.int .i64 d]) (star (sl (some b') (n+1) c' 98 1 (r.xs.map vL++[vL y])) (star (stars (parts p M)) F))):=h.aB (by ac_rfl);refine⟨⟨h1.aG 0,h1.bU 0⟩,?_,hl⟩;have h2:=h1.bM 0 (.slice (some ⟨b',0,none⟩) (n+1) c');refine h2.aB ?_;unfold nP;have e1:(Fl.mk (some b') c' (r.xs++[y])).v=.slice (some ⟨b',0,none⟩) (n+1) c':=by simp[Fl.v,hn]
 have e2:(Fl.mk (some b') c' (r.xs++[y])).hp 98 vL=sl (some b') (n+1) c' 98 1 (r.xs.map vL++[vL y]):=by simp[Fl.hp,hn]
 rw[e1,e2];simp only[List.set_cons_zero]
 ac_rfl
theorem At.zK {b0:Nat} {r:Fl Nat} {d:Int} (h:At B w0 w p M (star (nP b0 r d) F)):St B w0 w (star (sl r.a r.xs.length r.c 98 1 (r.xs.map vL)) (star (pt b0 123 [r.v,.int .i64 d]) (star (stars (parts p M)) F))):=by
 refine h.st.aB ?_;unfold nP Fl.hp
 ac_rfl
theorem At.WZ {b0 j b x:Nat} {r:Fl Nat} {d:Int} (h:At B w0 w p M (star (nP b0 r d) F)) (hb:r.a=some b) (hj:r.xs[j]?=some x):w.cell? ⟨b,j,none⟩=some (.int .u32 x)∧w.frozen? ⟨b,j,none⟩=false:=by
 have h1:=h.zK;rw[hb] at h1;exact⟨by rw[h1.aW j (by rw[List.length_map];exact bV hj),List.getElem?_map,hj];rfl,h1.bZ j⟩
theorem At.MK {b0 j b:Nat} {r:Fl Nat} {d:Int} (h:At B w0 w p M (star (nP b0 r d) F)) (hb:r.a=some b) (hj:j<r.xs.length) (x:Nat):At B w0 (w.setCell ⟨b,j,none⟩ (.int .u32 x)) p M (star (nP b0 ⟨r.a,r.c,r.xs.set j x⟩ d) F):=by
 have h1:=h.zK;rw[hb] at h1;have h2:=h1.fH j (.int .u32 x) (by simpa using hj);refine⟨h2.aB ?_,h.bA⟩;unfold nP Fl.hp;simp only[Fl.v,List.length_set,List.map_set,hb]
 ac_rfl
theorem At.Ya {b0:Nat} {r:Fl Nat} {d:Int} (h:At B w0 w p M (star (nP b0 r d) F)):w.cell? ⟨b0,0,none⟩=some r.v∧w.cell? ⟨b0,1,none⟩=some (.int .i64 d):=by
 have h1:=h.zK;have h2:St B w0 w (star (pt b0 123 [r.v,.int .i64 d]) (star (sl r.a r.xs.length r.c 98 1 (r.xs.map vL)) (star (stars (parts p M)) F))):=h1.aB (by ac_rfl);exact⟨h2.aG 0,h2.aG 1⟩
theorem zL (S:SM) (c:List Nat) (d:Int):(S.attach c d).value=S.value:=by unfold SM.attach;split <;> rfl
theorem zM (S:SM) (c:List Nat) (d:Int):(S.attach c d).level=S.level:=by unfold SM.attach;split <;> rfl
theorem wK (S:SM) (c:List Nat) (d:Int):(S.attach c d).reason=S.reason:=by unfold SM.attach;split <;> rfl
theorem zN (S:SM) (c:List Nat) (d:Int):(S.attach c d).trail=S.trail:=by unfold SM.attach;split <;> rfl
theorem QM (id:Nat) (h:At B w0 w p M F) (hid:id<M.given.xs.length) (hgl:M.given.xs.length≤1000000) (Jd:∀ x∈gl M.sv.given id,x.natAbs≤65536) (hlen:(gl M.sv.given id).length≤1000000) (hk:MF M.sv) (hlv:∀ x∈gl M.sv.given id,aJ x/2<M.value.xs.length) (hcn:M.cls.xs.length≤1000000) :
  Calls Tryz.prog 89 #[.pointer (some ⟨p,0,none⟩),.int .i64 id] w fun e w'=>e=.returned (.int .i64 (M.sv.begin_ id).2)∧∃ M',At B w0 w' p M' F∧M'.sv=(M.sv.begin_ id).1:=by
 obtain⟨rg,hrg⟩:∃ x,M.given.xs[id]?=some x:=⟨M.given.xs[id],by simp[hid]⟩;obtain⟨bg,hbg⟩:=h.aaM (by omega);obtain⟨o1,_⟩:=h.Tc hbg hrg;have c3:=h.rM;obtain⟨ng,hng⟩:∃ n,M.given.xs.length=n:=⟨_,rfl⟩;obtain⟨n,hn⟩:∃ n,rg.xs.length=n:=⟨_,rfl⟩;obtain⟨ra,hra⟩:∃ ra,(rg.a.map fun b=>(⟨b,0,none⟩:Addr))=ra:=⟨_,rfl⟩;rw[hbg,hng] at c3;rw[hn,hra] at o1;simp only[Option.map_some] at c3;have ad3:gl M.sv.given id=rg.xs:=by show gl (M.given.xs.map (·.xs)) id=_;simp[gl,List.getD_eq_getElem?_getD,hrg]
 rw[ad3] at Jd hlen hlv;have HK:=zH hk;have KL:=zH hcn;clear hcn;have Ig:=zH hlv;clear hk hlv;rw[hn] at hlen;rw[hng] at hid hgl;obtain⟨b0,hb0⟩:∃ b0,w.heap.size=b0:=⟨_,rfl⟩;have H:=zH h;have HRG:=zH hrg;have HBG:=zH hbg;have HN:=zH hn;have KJ:=zH hra;have HNG:=zH hng;have Db:=zH Jd;have HGL:=zH ad3;have d0:(0:Int)≤(id:Int):=by omega
 have d1:(id:Int)<(ng:Int):=by omega
 clear h hrg hbg hn hra hng Jd ad3
 go_enter Tryz.func89,Tryz.ntmps89
 go_upto_region 2 with fail
 have h1:At B w0 (w.alloc (.cells #[.slice none 0 0,.int .i64 id] 123)) p M (star (nP b0 ⟨none,0,[]⟩ id) F):=by
  have h2:=H.out.box #[.slice none 0 0,.int .i64 id] 123;rw[hb0] at h2;refine h2.frame ?_;unfold nP;rw[show (⟨none,0,[]⟩:Fl Nat).hp 98 vL=emp from gK _ _,aQ];rfl
 revert h1;generalize w.alloc (.cells #[.slice none 0 0,.int .i64 id] 123)=w1;intro h1;obtain⟨o1,_⟩:=h1.Tc HBG.out HRG.out;have c3:=h1.rM;rw[HBG.out,HNG.out] at c3;rw[HN.out,KJ.out] at o1;simp only[Option.map_some] at c3;have H1:=zH h1;clear h1 hb0
 go_wp2
 clear o1 c3
 go_loopg [22] n (fun g s22 wr=>∃ (i:Nat) (r:Fl Nat),s22=.int .i64 i∧i≤n∧Hid (g=n-i)∧Hid (At B w0 wr p M (star (nP b0 r id) F))∧Hid (r.xs=(rg.xs.take i).map aJ))
 case atStart=>exact⟨0,⟨none,0,[]⟩,rfl,Nat.zero_le _,rfl,H1.out,zH (by simp)⟩
 case round =>
  obtain⟨i,r,rfl,hin,hg,H2,HX⟩:=hrel;have hrl:r.xs.length=i:=by rw[HX.out,List.length_map,List.length_take,HN.out];omega
  have hst:St B w0 wr (star (sl r.a i r.c 98 1 (r.xs.map vL)) (star (pt b0 123 [r.v,.int .i64 id]) (star (stars (parts p M)) F))):=by
   refine H2.out.st.aB ?_;unfold nP Fl.hp;rw[hrl]
   ac_rfl
  have k1:=hst.aB (show _=star (pt b0 123 [r.v,.int .i64 id]) (star (sl r.a i r.c 98 1 (r.xs.map vL)) (star (stars (parts p M)) F)) by ac_rfl);have I6:r.v=.slice (r.a.map fun b=>⟨b,0,none⟩) i r.c:=by unfold Fl.v;rw[hrl]
  have k2:=k1.aG 0;simp only[List.getElem?_cons_zero] at k2;rw[I6] at k2;have HST:=zH hst;have HRL:=zH hrl;have Ie:=zH I6;clear hst hrl I6 k1
  by_cases hil:i<n
  ·have e1:decide ((i:Int)<(n:Int))=true:=by simp;omega
   obtain⟨bb,hbb⟩:=(H2.out.WA HRG.out).1 (by rw[HN.out];omega);obtain rfl:ra=some ⟨bb,0,none⟩:=by rw[←KJ.out,hbb];rfl
   obtain⟨x,hx⟩:∃ x,gi rg.xs i=x:=⟨_,rfl⟩;obtain⟨e2,_⟩:=H2.out.aaN HRG.out hbb (j:=i) (x:=x) (by rw[←hx,dh _ _ (by rw[HN.out];exact hil)];exact List.getElem?_eq_getElem _);simp only[vI] at e2;have hxl:=Db.out x (by rw[←hx,dh _ _ (by rw[HN.out];exact hil)];exact List.getElem_mem _);have HP:=zH (fun V=>uK x V (by omega) (by omega));have i0:(0:Int)≤(i:Int):=by omega
   have i1:(i:Int)<(n:Int):=by omega
   have HHX:=zH hx;have Hw:=zH hbb;have tO:=zH hxl;clear hx hbb hxl
   go_wp2
   have UK:=zH (fun b' c' w5 hs=>At.WY (M:=M) (F:=F) (p:=p) (B:=B) (w0:=w0) (b0:=b0) (n:=i) (b':=b') (c':=c') (y:=aJ x) (r:=r) (d:=id) (w5:=w5) H.out.bA HRL.out hs);have qb:∀ o,(wr.alloc o).cell? ⟨b0,0,none⟩=some (.slice (r.a.map fun b=>⟨b,0,none⟩) i r.c):=fun o=>(World.cell?_alloc_some _ _ _ (by rw[k2];rfl)).trans k2;have i9:i≤1000000:=by omega
   refine dn 7 (fun V:World=>V.cell? ⟨b0,0,none⟩=some (.slice (r.a.map fun b=>⟨b,0,none⟩) i r.c)) (by kernel_rfl) ?_;have bB:(fun V:World=>V.cell? ⟨b0,0,none⟩=some (.slice (r.a.map fun b=>⟨b,0,none⟩) i r.c)) wr.drew:=k2;refine ay (i:=0) (v:=?v1) rfl (by kernel_rfl) (by kernel_rfl) (by kernel_rfl) (by kernel_rfl) (fun _ _ _ h=>h) rfl ?hy1 bB ?_
   case hy1 =>
    intro V aF
    try dsimp only at aF
    go_simp
    try with_reducible rfl
   try simp only[Act.put,List.setIfInBounds_toArray,List.set_cons_zero,List.set_cons_succ]
   refine ay (i:=1) (v:=?v2) rfl (by kernel_rfl) (by kernel_rfl) (by kernel_rfl) (by kernel_rfl) (fun _ _ _ h=>h) rfl ?hy2 bB ?_
   case hy2 =>
    intro V aF
    try dsimp only at aF
    go_simp
    try with_reducible rfl
   try simp only[Act.put,List.setIfInBounds_toArray,List.set_cons_zero,List.set_cons_succ]
   refine ay (i:=2) (v:=?v3) rfl (by kernel_rfl) (by kernel_rfl) (by kernel_rfl) (by kernel_rfl) (fun _ _ _ h=>h) rfl ?hy3 bB ?_
   case hy3 =>
    intro V aF
    try dsimp only at aF
    go_simp
    try with_reducible rfl
   try simp only[Act.put,List.setIfInBounds_toArray,List.set_cons_zero,List.set_cons_succ]
   refine Tq (i:=3) (v:=.int .u32 (aJ x)) rfl (by kernel_rfl) (by kernel_rfl) (by kernel_rfl) (by kernel_rfl) (fun _ _ _ h=>h) rfl 67 #[.int .i64 x] ?hyc (fun V _=>(HP.out V).mono fun e w' h=>⟨h.1,h.2.symm⟩) bB ?_
   case hyc =>
    intro V aF
    go_simp
    try with_reducible rfl
   try simp only[Act.put,List.setIfInBounds_toArray,List.set_cons_zero,List.set_cons_succ]
   refine bf (i:=4) (by kernel_rfl) rfl (fun K hK=>?_)
   go_simp
   refine hK _ _ (qb _) ?_;clear hK K
   try simp only[Act.put,List.setIfInBounds_toArray,List.set_cons_zero,List.set_cons_succ]
   refine bf (i:=5) (by kernel_rfl) rfl (fun K hK=>?_);refine bN (by rfl) _ _ 85 98 (.int .u32 0) 4 (by rfl) Tryz.underlying85 Tryz.Dz rfl (HST.out.drew.alloc _) (by rfl) wr.heap.size (.int .u32 (aJ x)) (by rfl) (fJ wr.drew _ _) rfl (by omega) (by simp only[maxLen];omega) ?_;intro b' c' w5 h6 _;obtain⟨⟨k3,k4⟩,k5⟩:=UK.out _ _ _ h6;rw[Ie.out] at k3;have K5:=zH k5;clear k5 h6;have HS2:(fun V:World=>V.cell? ⟨b0,0,none⟩=some (.slice (r.a.map fun b=>⟨b,0,none⟩) i r.c)) _:=k3;refine hK _ _ HS2 ?_;clear hK K
   try simp only[Act.put,List.setIfInBounds_toArray,List.set_cons_zero,List.set_cons_succ]
   refine ay (i:=6) (v:=?v4) rfl (by kernel_rfl) (by kernel_rfl) (by kernel_rfl) (by kernel_rfl) (fun _ _ _ h=>h) rfl ?hy4 HS2 ?_
   case hy4 =>
    intro V aF
    try dsimp only at aF
    go_simp
    try with_reducible rfl
   try simp only[Act.put,List.setIfInBounds_toArray,List.set_cons_zero,List.set_cons_succ]
   refine iy (by kernel_rfl) rfl (by kernel_rfl) (fun K hK=>?_)
   go_simp
   refine hK _ _ ?_;clear hK K;clear k3 k4 k2 qb bB HS2 UK HST
   go_wp2
   go_roundg (n-(i+1))
   case measure=>have:=hg.out;omega
   case rel=>exact⟨i+1,⟨some b',c',r.xs++[aJ x]⟩,by go_num,by omega,rfl,K5.out,zH (by rw[HX.out,List.take_succ_eq_append_getElem (show i<rg.xs.length by rw[HN.out];exact hil),List.map_append,←dh _ _ (show i<rg.xs.length by rw[HN.out];exact hil),HHX.out];rfl)⟩
  ·obtain rfl:i=n:=by omega
   have e1:decide ((i:Int)<(i:Int))=false:=by simp
   have hxs:r.xs=rg.xs.map aJ:=by rw[HX.out,List.take_of_length_le (by rw[HN.out];exact Nat.le_refl _)]
   have Wl:=zH hxs;have HB0:=zH (show M.sv.begins id=M.sv.ug i r.xs 0 by unfold SM.begins;rw[HGL.out,HN.out,hxs]);obtain⟨rA,hrA⟩:∃ rA,(r.a.map fun b=>(⟨b,0,none⟩:Addr))=rA:=⟨_,rfl⟩;rw[hrA] at k2;have UU:=zH hrA;clear hxs hrA HX HST
   go_wp2
   clear k2
   go_loopg [8,37] i (fun g s8 s37 wr=>∃ (j m:Nat) (cs:List Nat),s8=.int .i64 m∧s37=.int .i64 j∧m≤j∧j≤i∧cs.length=i∧Hid (∀ x∈cs,x/2<M.value.xs.length)∧Hid (g=i-j)∧Hid (At B w0 wr p M (star (nP b0 ⟨r.a,r.c,cs⟩ id) F))∧Hid (M.sv.ug (i-j) cs m=M.sv.begins id))
   case atStart=>exact⟨0,0,r.xs,rfl,rfl,Nat.le_refl _,Nat.zero_le _,HRL.out,zH (fun y hy=>by rw[Wl.out] at hy;obtain⟨q,hq,rfl⟩:=List.mem_map.1 hy;exact Ig.out q hq),rfl,H2.out,zH HB0.out.symm⟩
   case round =>
    obtain⟨j,m,cs,rfl,rfl,hmj,hji,hcl,DC,hg2,H3,HS⟩:=hrel
    by_cases hjl:j<i
    ·have e3:decide ((j:Int)<(i:Int))=true:=by simp;omega
     obtain⟨b,hb⟩:∃ b,r.a=some b:=by
      obtain⟨_,_,_,hnone,_⟩:=H3.out.zK.sat.aR
      cases e:r.a with
      | none=>have h9:=(hnone e).1;have h8:cs.length=0:=h9;omega
      | some b=>exact⟨b,rfl⟩
     obtain rfl:rA=some ⟨b,0,none⟩:=by rw[←UU.out,hb];rfl
     obtain⟨k1,f1⟩:=H3.out.WZ hb (j:=j) (x:=gn cs j) (aM cs j (by omega));have hyv:=DC.out _ (aU cs j (by omega));have HIS:=zH (mQ (gn cs j) H3.out hyv HK.out.small (HK.out.val _));obtain⟨y,hy⟩:∃ y,gn cs j=y:=⟨_,rfl⟩;rw[hy] at k1 HIS hyv;obtain⟨sy,hsy⟩:∃ s,M.sv.bF y=s:=⟨_,rfl⟩;rw[hsy] at HIS;have hss:=HS.out;rw[show i-j=(i-(j+1))+1 by omega,SM.ug,show cs.length-(i-(j+1)+1)=j by omega,hy,hsy] at hss;have QN:=zH hss;have HY:=zH hy;have HSY:=zH hsy;have HB:=zH hb;have j0:(0:Int)≤(j:Int):=by omega
     have j1:(j:Int)<(i:Int):=by omega
     clear hss hy hsy hb HS f1
     go_wp2_with fail
     refine HIS.out.mono ?_
     rintro e w3 ⟨rfl,hd⟩
     have H4:=zH (H3.out.drawn hd);clear hd HIS k1
     by_cases hs:0≤sy
     ·have e6:decide (0≤sy)=true:=by simpa using hs
      obtain⟨k2,f2⟩:=H4.out.WZ HB.out (j:=m) (x:=gn cs m) (aM cs m (by omega));obtain⟨k3,f3⟩:=H4.out.WZ HB.out (j:=j) (x:=y) (by rw[aM cs j (by omega),HY.out]);obtain⟨ym,hym⟩:∃ ym,gn cs m=ym:=⟨_,rfl⟩;rw[hym] at k2;have k0:=H4.out.Ya.1;rw[show (⟨r.a,r.c,cs⟩:Fl Nat).v=.slice (some ⟨b,0,none⟩) i r.c by unfold Fl.v;rw[hcl,UU.out]] at k0;have h5:=(((H4.out.MK HB.out (j:=j) (by show j<cs.length;omega) ym).MK HB.out (j:=m) (by show m<(cs.set j ym).length;rw[List.length_set];omega) y).drewN 1);have H5:=zH h5;have HYM:=zH hym
      have nbb:¬ b=b0:=by
       have h9:=H4.out.zK;rw[HB.out] at h9;have h8:St B w0 w3 (star (pt b0 123 [(⟨some b,r.c,cs⟩:Fl Nat).v,.int .i64 id]) (star (sl (some b) cs.length r.c 98 1 (cs.map vL)) (star (stars (parts p M)) F))):=h9.aB (by dsimp only;ac_rfl);exact fun e=>h8.sat.gW e.symm
      have m0:(0:Int)≤(m:Int):=by omega
      have m1:(m:Int)<(i:Int):=by omega
      clear h5 hym
      by_cases hjm:j=m
      ·subst hjm;obtain rfl:ym=y:=HYM.out.symm.trans HY.out
       go_wp2
       go_region
       go_wp2
       go_roundg (i-(j+1))
       case measure=>have:=hg2.out;omega
       case rel=>exact⟨j+1,j+1,(cs.set j ym).set j ym,by go_num,by go_num,by omega,by omega,by rw[List.length_set,List.length_set];exact hcl,zH (fun q hq=>by rw[←HYM.out] at hq;exact DC.out q (Fw (c:=cs) (i:=j) (j:=j) (by omega) (by omega) hq)),rfl,H5.out,zH (by have h9:=QN.out;rw[if_pos hs] at h9;unfold SM.dG at h9;rw[HYM.out] at h9;exact h9)⟩
      ·have hjm2:¬ m=j:=fun h=>hjm h.symm
       go_wp2
       go_region
       go_wp2
       go_roundg (i-(j+1))
       case measure=>have:=hg2.out;omega
       case rel=>exact⟨j+1,m+1,(cs.set j ym).set m y,by go_num,by go_num,by omega,by omega,by rw[List.length_set,List.length_set];exact hcl,zH (fun q hq=>by rw[←HYM.out,←HY.out] at hq;exact DC.out q (Fw (c:=cs) (i:=j) (j:=m) (by omega) (by omega) hq)),rfl,H5.out,zH (by have h9:=QN.out;rw[if_pos hs] at h9;unfold SM.dG at h9;rw[HYM.out,HY.out] at h9;exact h9)⟩
     ·have e6:decide (0≤sy)=false:=by simpa using hs
      go_wp2
      go_roundg (i-(j+1))
      case measure=>have:=hg2.out;omega
      case rel=>exact⟨j+1,m,cs,rfl,by go_num,by omega,by omega,hcl,DC,rfl,H4.out,zH (by have h9:=QN.out;rw[if_neg (by omega)] at h9;exact h9)⟩
    ·obtain rfl:j=i:=by omega
     have e3:decide ((j:Int)<(j:Int))=false:=by simp
     have agM:M.sv.begins id=(cs,m):=by have h9:=HS.out;rw[Nat.sub_self] at h9;exact h9.symm
     have aa9:=zH agM;obtain⟨q0,q1⟩:=H3.out.Ya;rw[show (⟨r.a,r.c,cs⟩:Fl Nat).v=.slice rA j r.c by unfold Fl.v;rw[hcl,UU.out]] at q0
     have hfr:At B w0 wr p M (star ((⟨r.a,r.c,cs⟩:Fl Nat).hp 98 vL) (star (pt b0 123 [.slice rA j r.c,.int .i64 id]) F)):=by
      refine H3.out.frame ?_;unfold nP;rw[show (⟨r.a,r.c,cs⟩:Fl Nat).v=.slice rA j r.c by unfold Fl.v;rw[hcl,UU.out]]
      ac_rfl
     have hwl:M.aj.xs.length=2*M.value.xs.length:=by
      have h7b:(M.aj.xs.map (·.xs)).length=2*M.value.xs.length:=HK.out.sz.aj;simpa using h7b
     have hvl:M.value.xs.length≤100000:=HK.out.small;have HA:=zH (Fz ⟨r.a,r.c,cs⟩ id hfr KL.out (fun x hx=>HK.out.rows _ (List.mem_map.2 ⟨x,hx,rfl⟩)) (fun x hx=>by have h8:=DC.out x hx;omega) (by omega) (by show cs.length≤_;omega));clear hwl hvl;rw[show (⟨r.a,r.c,cs⟩:Fl Nat).v=.slice rA j r.c by unfold Fl.v;rw[hcl,UU.out]] at HA;clear hfr agM HS hg2 hg
     go_wp2_with fail
     refine HA.out.mono ?_
     rintro e w3 ⟨rfl,M3,zJ,agN,acP⟩
     obtain⟨nc,hnc⟩:∃ nc,M.cls.xs.length=nc:=⟨_,rfl⟩;rw[hnc];have H4:=zH zJ;have FB:=zH agN;have jW:=zH acP;have Tt:=zH hnc;clear zJ agN acP hnc HA q0 q1;have abb:M.sv.cls.length=nc:=by show (M.cls.xs.map _).length=nc;rw[List.length_map];exact Tt.out
     have agO:=zH abb;clear abb
     by_cases hm0:m=0
     ·subst hm0;have e5:decide (((0:Nat):Int)=0)=true:=by simp
      have HE:=zH (show M.sv.begin_ id=(M3.sv,(nc:Int)) by unfold SM.begin_;rw[aa9.out,FB.out,if_pos rfl,agO.out])
      go_wp2
      go_ret
      exact⟨by rw[HE.out];rfl,M3,H4.out.iL,by rw[HE.out]⟩
     ·have e5:decide ((m:Int)=0)=false:=by simp;omega
      by_cases hm1:m=1
      ·subst hm1;have e6:decide (((1:Nat):Int)=1)=true:=by simp
       have hj:0<j:=by omega
       obtain⟨b,hb⟩:∃ b,r.a=some b:=by
        have hr3:M3.cls.xs[nc]?=some (⟨r.a,r.c,cs⟩,(id:Int)):=by rw[jW.out,←Tt.out];simp
        obtain⟨b,hb⟩:=(H4.out.wY hr3).1 (by show 0<cs.length;omega);exact⟨b,hb⟩
       obtain rfl:rA=some ⟨b,0,none⟩:=by rw[←UU.out,hb];rfl
       have hr3:M3.cls.xs[nc]?=some (⟨r.a,r.c,cs⟩,(id:Int)):=by rw[jW.out,←Tt.out];simp
       have hc3:=H4.out.cu 0;simp only[List.getElem?_cons_zero] at hc3;obtain⟨k1,_⟩:=H4.out.iE hr3 hb (j:=0) (x:=gn cs 0) (aM cs 0 (by omega));obtain⟨y,hy⟩:∃ y,gn cs 0=y:=⟨_,rfl⟩;rw[hy] at k1;obtain⟨k2,_⟩:=hc3;have hv3:M3.value.xs=M.value.xs:=by have h9:=congrArg SM.value FB.out;rw[zL] at h9;exact h9
       have hyv:y/2<M3.value.xs.length:=by rw[hv3,←hy];exact DC.out _ (aU cs 0 (by omega))
       have HIS:=zH (mQ y H4.out hyv (by rw[hv3];exact HK.out.small) (by rw[hv3];exact HK.out.val _));obtain⟨sy,hsy⟩:∃ s,M3.sv.bF y=s:=⟨_,rfl⟩;rw[hsy] at HIS;have HSY:=zH hsy;have HY:=zH hy;have HYV:=zH hyv;have HR3:=zH hr3;have HB:=zH hb;have HV3:=zH hv3;have j0:(0:Int)<(j:Int):=by omega
       clear hr3 hv3 hsy hy hyv hb
       go_wp2_with fail
       refine HIS.out.mono ?_
       rintro e w4 ⟨rfl,hd⟩
       have h5:=H4.out.drawn hd;have hc5:=h5.cu 0;simp only[List.getElem?_cons_zero] at hc5;obtain⟨k3,_⟩:=hc5;obtain⟨k4,_⟩:=h5.iE HR3.out HB.out (j:=0) (x:=gn cs 0) (aM cs 0 (by omega));rw[HY.out] at k4;have H5:=zH h5;clear hd h5 k1 k2 HIS
       by_cases hs0:sy=0
       ·subst hs0;have e7:decide ((0:Int)=0)=true:=by simp
        have hl3:M3.level.xs.length=M3.value.xs.length:=by
         have h9:=congrArg SM.level FB.out;rw[zM] at h9;have h8:M3.level.xs=M.level.xs:=h9;rw[h8,HV3.out];exact HK.out.sz.level
        have hr3:M3.reason.xs.length=M3.value.xs.length:=by
         have h9:=congrArg SM.reason FB.out;rw[wK] at h9;have h8:M3.reason.xs=M.reason.xs:=h9;rw[h8,HV3.out];exact HK.out.sz.reason
        have ht3:M3.trail.xs.length≤1000000:=by
         have h9:=congrArg SM.trail FB.out;rw[zN] at h9;have h8:M3.trail.xs=M.trail.xs:=h9;have h7:M.trail.xs.length≤900000:=HK.out.trail;rw[h8];omega
        have HS:=zH (vP y nc H5.out HYV.out hl3 hr3 (by rw[HV3.out];exact HK.out.small) ht3);clear hl3 hr3 ht3
        go_wp2_with fail
        refine HS.out.mono ?_
        rintro e w5 ⟨rfl,a1,a2,a3,a4,h6,h7⟩
        have HE:=zH (show M.sv.begin_ id=(M3.sv.bX y nc,(-1:Int)) by
         unfold SM.begin_;rw[aa9.out,if_neg (show ¬ ((1:Nat)=0) by decide)];dsimp only;rw[HY.out,←FB.out,HSY.out,agO.out]
         rfl)
        have H6:=zH h6;have H7:=zH h7;clear h6 h7 HS
        go_wp2
        go_ret
        exact⟨by rw[HE.out];rfl,_,H6.out.iL,by rw[HE.out];exact H7.out⟩
       ·have e7:decide (sy=0)=false:=by simpa using hs0
        have HE:=zH (show M.sv.begin_ id=(M3.sv,(-1:Int)) by
         unfold SM.begin_;rw[aa9.out,if_neg (show ¬ ((1:Nat)=0) by decide)];dsimp only;rw[HY.out,←FB.out,HSY.out];have:(sy==0)=false:=by simpa using hs0
         rw[this]
         rfl)
        go_wp2
        go_ret
        exact⟨by rw[HE.out];rfl,M3,H5.out.iL,by rw[HE.out]⟩
      ·have e6:decide ((m:Int)=1)=false:=by simp;omega
       have HE:=zH (show M.sv.begin_ id=(M3.sv,(-1:Int)) by unfold SM.begin_;rw[aa9.out,FB.out,if_neg hm0];simp[hm1])
       go_wp2
       go_ret
       exact⟨by rw[HE.out];rfl,M3,H4.out.iL,by rw[HE.out]⟩
end
section
variable {B:Nat} {w0 w:World} {p:Nat} {M:MM} {F:HP}
theorem At.new1 (h:At B w0 w p M F) (x:Value) (e:TypeId):At B w0 (w.alloc (.cells #[x] e)) p M (star (sl (some w.heap.size) 1 1 e 1 [x]) F):=by
 have h1:=h.box #[x] e;have h2:St B w0 (w.alloc (.cells #[x] e)) (star (pt w.heap.size e [x]) (star (stars (parts p M)) F)):=h1.st.aB (by ac_rfl)
 have h3:St B w0 (w.alloc (.cells #[x] e)) (star (sl (some w.heap.size) 1 1 e 1 [x]) (star (stars (parts p M)) F)) :=
  ⟨h2.below,h2.base,h2.sat.pO (by simp) (Nat.le_refl _) (by simp only[maxLen];omega) (by simp) (by simp)⟩
 exact⟨h3.aB (by ac_rfl),h.bA⟩
theorem At.akG {P:HP} (h:At B w0 w p M (star P F)):St B w0 w (star P (star (stars (parts p M)) F)):=h.st.aB (by ac_rfl)
theorem At.Yb {P:HP} (h:St B w0 w (star P (star (stars (parts p M)) F))) (hl:M.last.xs=[]→M.last.a=none):At B w0 w p M (star P F):=⟨h.aB (by ac_rfl),hl⟩
theorem At.ML {α:Type} {e:TypeId} {enc:α→Value} {r:Fl α} {n:Nat} (h:At B w0 w p M (star (r.hp e enc) F)) (hn:r.xs.length=n):St B w0 w (star (sl r.a n r.c e 1 (r.xs.map enc)) (star (stars (parts p M)) F)):=by
 subst hn;exact h.st.aB (by unfold Fl.hp;ac_rfl)
theorem At.Yc {α:Type} {e:TypeId} {enc:α→Value} {r:Fl α} (h:At B w0 w p M (star (r.hp e enc) F)) (hi:0<r.xs.length):∃ b,r.a=some b:=by
 obtain⟨_,_,_,hn,_⟩:=(h.ML rfl).sat.aR
 cases e:r.a with
 | none=>have:=(hn e).1;omega
 | some b=>exact⟨b,rfl⟩
theorem At.FC {α:Type} {e:TypeId} {enc:α→Value} {r:Fl α} (h:At B w0 w p M (star (r.hp e enc) F)) {b j:Nat} (hb:r.a=some b) {x:α} (hj:r.xs[j]?=some x):w.cell? ⟨b,j,none⟩=some (enc x)∧w.frozen? ⟨b,j,none⟩=false:=by
 have h1:=h.ML rfl;rw[hb] at h1;exact⟨by rw[h1.aW j (by rw[List.length_map];exact bV hj),List.getElem?_map,hj];rfl,h1.bZ j⟩
theorem At.agQ {α:Type} {e:TypeId} {enc:α→Value} {r:Fl α} (h:At B w0 w p M (star (r.hp e enc) F)) {b i:Nat} (hb:r.a=some b) (hi:i<r.xs.length) (x:α):At B w0 (w.setCell ⟨b,i,none⟩ (enc x)) p M (star ((⟨r.a,r.c,r.xs.set i x⟩:Fl α).hp e enc) F):=by
 have h1:=h.ML rfl;rw[hb] at h1;have h2:=h1.fH i (enc x) (by simpa using hi);refine⟨h2.aB ?_,h.bA⟩;unfold Fl.hp;simp only[List.length_set,List.map_set,hb]
 ac_rfl
theorem At.MN {α:Type} {e:TypeId} {enc:α→Value} {r:Fl α} {x:α} {b' n c':Nat} (hl:M.last.xs=[]→M.last.a=none) (hn:r.xs.length=n)
  (h:St B w0 w (star (sl (some b') (n+1) c' e 1 (r.xs.map enc++[enc x])) (star (stars (parts p M)) F))):At B w0 w p M (star ((⟨some b',c',r.xs++[x]⟩:Fl α).hp e enc) F):=by
 subst hn;refine⟨h.aB ?_,hl⟩;unfold Fl.hp;simp only[List.length_append,List.length_singleton,List.map_append,List.map_cons,List.map_nil]
 ac_rfl
end
end Go.Proofs.YthbbmdnfkkffjaaGreat

/-
  Parts of the proof, joined by program: Att.
-/
import Derived.Test.YthbbmdnfkkffjaaGreatZ12
namespace Go.Proofs.PlaitSep
open Go Go.RowKit
theorem step_appendK {P:Program} {w:World} {ops:Array Oper} {o:Oper} {a:Act} {K:Act→World→Prop} {Q:Exit→Act→World→Prop} {E:Prop} (hgd:o.guard=none) (s x:Operand) (t e:TypeId) (z:Value) (size bytes:Nat)
  (ho:o.op=.call { callee:=.builtin .append,args:=#[s,x],argTypes:=#[t,t] })
  (ht:P.underlying t=some (.slice e)) (hinfo:(P.info? e).map (fun i=>(i.zero,i.size,i.bytes))=some (some z,size,bytes)) (hzs:z.cells.size=size) (hsz:0<size)
  {B:Nat} {w0:World} {v:Option Nat} {n c:Nat} {xs:List Value} {F:HP} (hst:St B w0 w (star (sl v n c e size xs) F))
  (hs:a.eval s=.slice (v.map fun b=>⟨b,0,none⟩) n c) (b:Nat) (news:List Value) (hl:news.length=size) (hx:a.eval x=.slice (some ⟨b,0,none⟩) 1 1) (hc:∀ (j:Nat) (u:Value),news[j]?=some u→w.cell? ⟨b,j,none⟩=some u) (h1:∀ u∈news,u.oneCell'=true) (hb:(n+1)*bytes≤140737488355328) (hn:n+1≤maxLen)
  (h:∀ b' c' w',St B w0 w' (star (sl (some b') (n+1) c' e size (xs++news)) F)→(∀ k,k<w.heap.size→v≠some k→w'.heap[k]?=w.heap[k]?)→K (a.put o.dst (.slice (some ⟨b',0,none⟩) (n+1) c')) w') :
  if Region.wanted o (yielded ops a.tmps)=true then Oper.wp P o a w K Q else E:=by
 have hw:Region.wanted o (yielded ops a.tmps)=true:=by simp[Region.wanted,hgd]
 rw[if_pos hw]
 obtain⟨i,hi,hzz⟩:=Option.map_eq_some_iff.1 hinfo
 simp only[Prod.mk.injEq] at hzz
 obtain⟨hz0,hz1,hz2⟩:=hzz
 obtain⟨b',c',w',hr,h2,h3,_⟩:=run_append_slk (P:=P) w0 w B t o.type e i z size bytes ht hi hz0 hz1 hz2 hzs hsz v n c xs F hst ⟨b,0,none⟩ 1 1 news (by omega)
  (fun j u hj=>by have:=hc j u hj;simp only[Addr.add,Nat.zero_add];split <;> simp_all) h1 hn hb (by omega)
 unfold Oper.wp execOp
 simp only[slv] at hr
 simp only[ho,resolve,invoke,builtin,Sem.run_bind,Sem.run_pure,Result.andThen_ok,List.map_toArray,List.map_cons,List.map_nil,hs,hx,hr]
 exact h b' c' w' h2 h3
theorem cell_newL (w:World) (cs:List Value) (e:TypeId) (j:Nat) (u:Value) (h:cs[j]?=some u):(w.alloc (.cells cs.toArray e)).cell? ⟨w.heap.size,j,none⟩=some u:=by
 rw[cell_of_row _ _ _ _ _ _ (heap_alloc_new w _)]
 simpa using h
end Go.Proofs.PlaitSep
namespace Go.Proofs.YthbbmdnfkkffjaaGreat
open Go.RowKit Go.Proofs.PlaitSep Go.Proofs.PlaitPure Go.Proofs.PlaitSat
theorem Tryz.infoClause:(Tryz.prog.info? 123).map (fun i=>(i.zero,i.size,i.bytes))=some (some (.agg #[.slice none 0 0,.int .i64 0]),2,32):=by kernel_rfl
section
variable {B:Nat} {w0 w:World} {p:Nat} {M:MM} {F:HP}
theorem At.box (h:At B w0 w p M F) (cs:Array Value) (e:TypeId):At B w0 (w.alloc (.cells cs e)) p M (star (pt w.heap.size e cs.toList) F):=⟨(h.st.pt_new cs e).conseq (by ac_rfl),h.lastN⟩
theorem At.box_cell {b:Nat} {e:TypeId} {xs:List Value} (h:At B w0 w p M (star (pt b e xs) F)) (i:Nat):w.cell? ⟨b,i,none⟩=xs[i]?∧w.frozen? ⟨b,i,none⟩=false:=by
 have h1:St B w0 w (star (pt b e xs) (star (stars (parts p M)) F)):=h.st.conseq (by ac_rfl)
 exact⟨h1.pt_cell i,h1.pt_free i⟩
theorem At.watch_push {bw y n nr:Nat} {rw_:Fl Nat} {ref:Nat} (h5:At B w0 w p M F) (hrw:M.watches.xs[y]?=some rw_) (hbw:M.watches.a=some bw) (hnr:rw_.xs.length=nr) (hn:M.watches.xs.length=n) (b' c':Nat) (w5:World)
  (h6:St B w0 w5 (star (sl (some b') (nr+1) c' 3 1 (rw_.xs.map vN++[vN ref])) (hole_watches p M y F))) :
  w5.cell? ⟨p,6,none⟩=some (.slice (some ⟨bw,0,none⟩) n M.watches.c)∧(w5.cell? ⟨bw,y,none⟩=some (.slice (rw_.a.map fun b=>⟨b,0,none⟩) nr rw_.c)∧w5.frozen? ⟨bw,y,none⟩=false) ∧
   At B w0 (w5.setCell ⟨bw,y,none⟩ (.slice (some ⟨b',0,none⟩) (nr+1) c')) p (M.u_watches ⟨M.watches.a,M.watches.c,M.watches.xs.set y ⟨some b',c',rw_.xs++[ref]⟩⟩) F:=by
 obtain⟨g1,g2,g3⟩:=At.rpush_watches (M:=M) (x:=ref) h5.lastN hrw hbw hnr h6
 exact⟨by rw[←hn];exact g1,g2,g3⟩
theorem At.unrow_box {i b:Nat} {e:TypeId} {xs:List Value} {r:Fl Nat} {Q:HP} (hi:M.watches.xs[i]?=some r) (h:St B w0 w (star Q (hole_watches p M i (star (pt b e xs) F)))) (j:Nat):w.cell? ⟨b,j,none⟩=xs[j]?:=by
 have h1:=At.unrow_watches hi h
 have h2:St B w0 w (star (pt b e xs) (star (stars ((parts p M).set 20 (stars ((M.watches.rows 3 vN).set i Q)))) F)):=h1.conseq (by ac_rfl)
 exact h2.pt_cell j
theorem sv_watch {y b' c' ref:Nat} {rw_:Fl Nat} (hrw:M.watches.xs[y]?=some rw_):MM.sv (M.u_watches ⟨M.watches.a,M.watches.c,M.watches.xs.set y ⟨some b',c',rw_.xs++[ref]⟩⟩)=M.sv.watch y ref:=by
 unfold SM.watch
 show ({ M.sv with watches:=(M.watches.xs.set y ⟨some b',c',rw_.xs++[ref]⟩).map (·.xs) }:SM)={ M.sv with watches:=(M.watches.xs.map (·.xs)).set y (gN (M.watches.xs.map (·.xs)) y++[ref]) }
 have hgn:gN (M.watches.xs.map (·.xs)) y=rw_.xs:=by simp[gN,List.getD_eq_getElem?_getD,hrw]
 rw[List.map_set,hgn]
set_option maxRecDepth 100000 in
set_option maxHeartbeats 4000000 in
theorem attach_any (r:Fl Nat) (d:Int) (h:At B w0 w p M (star (r.hp 98 vL) F)) (hn:M.cls.xs.length≤1000000) (hrows:∀ x∈M.watches.xs,x.xs.length≤1000000) (hlv:∀ x∈r.xs,x<M.watches.xs.length) (hwl:M.watches.xs.length≤1000000) (hrl:r.xs.length≤1000000) :
  Calls Tryz.prog 104 #[.pointer (some ⟨p,0,none⟩),.agg #[r.v,vI d]] w fun e w'=>e=.returned (.int .i64 M.cls.xs.length) ∧
   ∃ M',At B w0 w' p M' F∧M'.sv=M.sv.attach r.xs d∧M'.cls.xs=M.cls.xs++[(r,d)]:=by
 obtain⟨n,hnn⟩:∃ n,M.cls.xs.length=n:=⟨_,rfl⟩
 obtain⟨ln,hln⟩:∃ ln,r.xs.length=ln:=⟨_,rfl⟩
 obtain⟨ra,hra⟩:∃ ra,(r.a.map fun b=>(⟨b,0,none⟩:Addr))=ra:=⟨_,rfl⟩
 have hrv:r.v=Value.slice ra ln r.c:=by unfold Fl.v;rw[hln,hra]
 obtain⟨b0,hb0⟩:∃ b0,w.heap.size=b0:=⟨_,rfl⟩
 have h1:At B w0 (w.alloc (.cells #[r.v,vI d] 123)) p M (star (pt b0 123 [r.v,vI d]) (star (r.hp 98 vL) F)):=by
  have:=h.box #[r.v,vI d] 123
  rw[hb0] at this
  exact this
 obtain⟨g0,g0f⟩:=h1.box_cell 0
 obtain⟨g1,g1f⟩:=h1.box_cell 1
 have c5:=h1.c_cls
 rw[hnn] at hn c5
 rw[hrv] at g0 h1 g1 g0f g1f c5 ⊢
 simp only[List.getElem?_cons_zero,List.getElem?_cons_succ] at g0 g1
 have H:=Lib.hid h
 have H1:=Lib.hid h1
 have HNN:=Lib.hid hnn
 have HLN:=Lib.hid hln
 have HR:=Lib.hid hrows
 have HLV:=Lib.hid hlv
 have HWL:=Lib.hid hwl
 rw[hln] at hrl
 have HRV:=Lib.hid hrv
 have HRA:=Lib.hid hra
 clear h h1 hnn hln hrows hlv hwl hrv hra
 simp only[vI] at g0 g1 c5 g0f g1f ⊢
 go_enter Tryz.func104,Tryz.ntmps104
 go_wp2
 revert c5 g0 g1 g0f g1f
 have H1':=H1.out
 simp only[vI] at H1'
 clear H1
 revert H1'
 generalize hW:w.alloc (.cells #[.slice ra ln r.c,.int .i64 d] 123)=w1
 intro h1 g0 g0f g1 g1f c5
 clear hW
 have H1:=Lib.hid h1
 have HPP:=Lib.hid (show ∀ (b' c':Nat) (w5:World),St B w0 w5 (star (sl (some b') (n+1) c' 123 2 (clsV M.cls.xs++[.slice ra ln r.c,.int .i64 d])) (star (stars ((parts p M).eraseIdx 17)) (star (pt b0 123 [.slice ra ln r.c,.int .i64 d]) (star (r.hp 98 vL) F)))) →
   w5.cell? ⟨p,5,none⟩=some (.slice (M.cls.a.map fun b=>⟨b,0,none⟩) n M.cls.c)∧w5.frozen? ⟨p,5,none⟩=false∧w5.cell? ⟨b0,0,none⟩=some (.slice ra ln r.c)∧w5.cell? ⟨b0,1,none⟩=some (.int .i64 d) ∧
   At B w0 (w5.setCell ⟨p,5,none⟩ (.slice (some ⟨b',0,none⟩) (n+1) c')) p (M.u_cls ⟨some b',c',M.cls.xs++[(r,d)]⟩) (star (pt b0 123 [.slice ra ln r.c,.int .i64 d]) F) from fun b' c' w5 h6=>by
  have h7:St B w0 w5 (star (sl (some b') (n+1) c' 123 2 (clsV M.cls.xs++[r.v,vI d])) (star (stars ((parts p M).eraseIdx 17)) (star (r.hp 98 vL) (star (pt b0 123 [.slice ra ln r.c,.int .i64 d]) F)))):=h6.conseq (by rw[HRV.out];simp only[vI];ac_rfl)
  obtain⟨⟨k1,k2⟩,k3⟩:=At.pushcls (M:=M) H.out.lastN HNN.out h7
  have k4:St B w0 w5 (star (pt b0 123 [.slice ra ln r.c,.int .i64 d]) (star (sl (some b') (n+1) c' 123 2 (clsV M.cls.xs++[r.v,vI d])) (star (stars ((parts p M).eraseIdx 17)) (star (r.hp 98 vL) F)))):=h7.conseq (by ac_rfl)
  exact⟨k1,k2,k4.pt_cell 0,k4.pt_cell 1,k3⟩)
 have HT:=Lib.hid (show St B w0 w1 (star (sl M.cls.a n M.cls.c 123 2 (clsV M.cls.xs)) (star (stars ((parts p M).eraseIdx 17)) (star (pt b0 123 [.slice ra ln r.c,.int .i64 d]) (star (r.hp 98 vL) F)))) by have:=h1.t_cls;rw[HNN.out] at this;exact this)
 have q5:∀ o,(w1.alloc o).cell? ⟨p,5,none⟩=some (.slice (M.cls.a.map fun b=>⟨b,0,none⟩) n M.cls.c):=fun o=>(World.cell?_alloc_some _ _ _ (by rw[c5];rfl)).trans c5
 have q0:∀ o,(w1.alloc o).cell? ⟨b0,0,none⟩=some (.slice ra ln r.c):=fun o=>(World.cell?_alloc_some _ _ _ (by rw[g0];rfl)).trans g0
 have q1:∀ o,(w1.alloc o).cell? ⟨b0,1,none⟩=some (.int .i64 d):=fun o=>(World.cell?_alloc_some _ _ _ (by rw[g1];rfl)).trans g1
 clear h1
 refine wp_region_E 8 (fun V:World=>V.cell? ⟨p,5,none⟩=some (.slice (M.cls.a.map fun b=>⟨b,0,none⟩) n M.cls.c)∧V.cell? ⟨b0,0,none⟩=some (.slice ra ln r.c)∧V.cell? ⟨b0,1,none⟩=some (.int .i64 d)) (by kernel_rfl) ?_
 have HS0:(fun V:World=>V.cell? ⟨p,5,none⟩=some (.slice (M.cls.a.map fun b=>⟨b,0,none⟩) n M.cls.c)∧V.cell? ⟨b0,0,none⟩=some (.slice ra ln r.c)∧V.cell? ⟨b0,1,none⟩=some (.int .i64 d)) w1.drew:=⟨c5,g0,g1⟩
 refine E_takeL (i:=0) (v:=?v1) rfl (by kernel_rfl) (by kernel_rfl) (by kernel_rfl) (by kernel_rfl) (fun _ _ _ h=>h) rfl ?hy1 HS0 ?_
 case hy1 =>
  intro V hSV
  try dsimp only at hSV
  go_simp
  try with_reducible rfl
 try simp only[Act.put,List.setIfInBounds_toArray,List.set_cons_zero,List.set_cons_succ]
 refine E_takeL (i:=1) (v:=?v2) rfl (by kernel_rfl) (by kernel_rfl) (by kernel_rfl) (by kernel_rfl) (fun _ _ _ h=>h) rfl ?hy2 HS0 ?_
 case hy2 =>
  intro V hSV
  try dsimp only at hSV
  go_simp
  try with_reducible rfl
 try simp only[Act.put,List.setIfInBounds_toArray,List.set_cons_zero,List.set_cons_succ]
 refine E_takeL (i:=2) (v:=?v3) rfl (by kernel_rfl) (by kernel_rfl) (by kernel_rfl) (by kernel_rfl) (fun _ _ _ h=>h) rfl ?hy3 HS0 ?_
 case hy3 =>
  intro V hSV
  try dsimp only at hSV
  go_simp
  try with_reducible rfl
 try simp only[Act.put,List.setIfInBounds_toArray,List.set_cons_zero,List.set_cons_succ]
 refine E_takeL (i:=3) (v:=?v4) rfl (by kernel_rfl) (by kernel_rfl) (by kernel_rfl) (by kernel_rfl) (fun _ _ _ h=>h) rfl ?hy4 HS0 ?_
 case hy4 =>
  intro V hSV
  try dsimp only at hSV
  go_simp
  try with_reducible rfl
 try simp only[Act.put,List.setIfInBounds_toArray,List.set_cons_zero,List.set_cons_succ]
 refine E_takeL (i:=4) (v:=?v5) rfl (by kernel_rfl) (by kernel_rfl) (by kernel_rfl) (by kernel_rfl) (fun _ _ _ h=>h) rfl ?hy5 HS0 ?_
 case hy5 =>
  intro V hSV
  try dsimp only at hSV
  go_simp
  try with_reducible rfl
 try simp only[Act.put,List.setIfInBounds_toArray,List.set_cons_zero,List.set_cons_succ]
 refine E_takeL (i:=5) (v:=?v6) rfl (by kernel_rfl) (by kernel_rfl) (by kernel_rfl) (by kernel_rfl) (fun _ _ _ h=>h) rfl ?hy6 HS0 ?_
 case hy6 =>
  intro V hSV
  try dsimp only at hSV
  go_simp
  try with_reducible rfl
 try simp only[Act.put,List.setIfInBounds_toArray,List.set_cons_zero,List.set_cons_succ]
 refine E_onlyL (i:=6) (by kernel_rfl) rfl (fun K hK=>?_)
 go_simp
 refine hK _ _ (⟨q5 _,q0 _,q1 _⟩) ?_
 clear hK K
 try simp only[Act.put,List.setIfInBounds_toArray,List.set_cons_zero,List.set_cons_succ]
 refine E_onlyL (i:=7) (by kernel_rfl) rfl (fun K hK=>?_)
 refine step_appendK (by rfl) _ _ 82 123 (.agg #[.slice none 0 0,.int .i64 0]) 2 32 (by rfl) Tryz.underlying82 Tryz.infoClause rfl (by decide) (HT.out.drew.alloc _) (by rfl) w1.heap.size [.slice ra ln r.c,.int .i64 d] rfl (by rfl) (fun j u hj=>cell_newL w1.drew _ _ j u hj) (by simp[Value.oneCell']) (by omega) (by simp only[maxLen];omega) ?_
 intro b' c' w5 h6 _
 obtain⟨k1,k2,k3,k4,k5⟩:=HPP.out _ _ _ h6
 have K5:=Lib.hid k5
 clear k5 h6
 have HS2:(fun V:World=>V.cell? ⟨p,5,none⟩=some (.slice (M.cls.a.map fun b=>⟨b,0,none⟩) n M.cls.c)∧V.cell? ⟨b0,0,none⟩=some (.slice ra ln r.c)∧V.cell? ⟨b0,1,none⟩=some (.int .i64 d)) _:=⟨k1,k3,k4⟩
 refine hK _ _ HS2 ?_
 clear hK K
 try simp only[Act.put,List.setIfInBounds_toArray,List.set_cons_zero,List.set_cons_succ]
 refine E_zL (by kernel_rfl) rfl (fun K hK=>?_)
 go_simp
 refine hK _ _ ?_
 clear hK K
 try simp only[Act.put,List.setIfInBounds_toArray,List.set_cons_zero,List.set_cons_succ]
 refine any_onlyL (i:=9) (by kernel_rfl) rfl (fun K hK=>?_)
 go_simp
 refine hK _ _ ?_
 clear hK K
 try simp only[Act.put,List.setIfInBounds_toArray,List.set_cons_zero,List.set_cons_succ]
 refine any_lastL (i:=10) (by kernel_rfl) rfl (by kernel_rfl) (fun K hK=>?_)
 go_simp
 refine hK _ _ ?_
 clear hK K
 clear c5 g0 g1 g0f g1f q5 q0 q1 k1 k2 k3 k4 H1
 have h2:=K5.out
 clear K5
 revert h2
 generalize w5.setCell ⟨p,5,none⟩ (.slice (some ⟨b',0,none⟩) (n+1) c')=w2
 intro h2
 clear HS2 HS0 HPP HT
 obtain⟨M2,hM2⟩:∃ M2,M.u_cls ⟨some b',c',M.cls.xs++[(r,d)]⟩=M2:=⟨_,rfl⟩
 rw[hM2] at h2
 have HM2:=Lib.hid hM2
 obtain⟨g0,g0f⟩:=h2.box_cell 0
 simp only[List.getElem?_cons_zero] at g0
 have H2:=Lib.hid h2
 clear h2 hM2 g0f
 have HSV:Hid (M2.sv={ M.sv with cls:=M.sv.cls++[(r.xs,d)] }):=Lib.hid (by
  rw[←HM2.out]
  show ({ M.sv with cls:=(M.cls.xs++[(r,d)]).map fun x=>(x.1.xs,x.2) }:SM)={ M.sv with cls:=(M.cls.xs.map fun x=>(x.1.xs,x.2))++[(r.xs,d)] }
  rw[List.map_append]
  rfl)
 have HC2:Hid (M2.cls.xs=M.cls.xs++[(r,d)]):=Lib.hid (by rw[←HM2.out])
 have HW2:Hid (M2.watches=M.watches):=Lib.hid (by rw[←HM2.out])
 clear HM2
 by_cases hl1:1<ln
 ·have e1:decide ((1:Int)<(ln:Int))=true:=by simp;omega
  have HWL2:Hid (M2.watches.xs.length=M.watches.xs.length):=Lib.hid (by rw[HW2.out])
  have HRB2:Hid (∀ x∈M2.watches.xs,x.xs.length≤1000000+0):=Lib.hid (by rw[HW2.out];exact HR.out)
  have hi2:M2.cls.xs[n]?=some (r,d):=by rw[HC2.out,List.getElem?_append_right (by rw[HNN.out];exact Nat.le_refl _),HNN.out,Nat.sub_self];rfl
  obtain⟨b,hb⟩:=(H2.out.rb_cls hi2).1 (by rw[HLN.out];omega)
  obtain rfl:ra=some ⟨b,0,none⟩:=by rw[←HRA.out,hb];rfl
  have HI2:=Lib.hid hi2
  have HB:=Lib.hid hb
  have l0:(0:Int)<(ln:Int):=by omega
  have l00:0<ln:=by omega
  have l1:(1:Int)<(ln:Int):=by omega
  have HY:∀ j,j<ln→gn r.xs j<M.watches.xs.length:=fun j hj=>HLV.out _ (gn_mem _ _ (by rw[HLN.out];exact hj))
  have HYH:=Lib.hid HY
  clear hi2 hb HY
  obtain⟨y2,hy2⟩:∃ y,gn r.xs 0=y:=⟨_,rfl⟩
  obtain⟨e4,_⟩:=H2.out.e_cls HI2.out HB.out (j:=0) (x:=y2) (by rw[gn_some r.xs 0 (by rw[HLN.out];omega),hy2])
  have hyl2:y2<M2.watches.xs.length:=by rw[HWL2.out,←hy2];exact HYH.out 0 (by omega)
  obtain⟨rw2,hrw2⟩:∃ x,M2.watches.xs[y2]?=some x:=⟨M2.watches.xs[y2],by simp[hyl2]⟩
  obtain⟨bw2,hbw2⟩:=H2.out.b_watches (by omega)
  obtain⟨o2,_⟩:=H2.out.o_watches hbw2 hrw2
  have c2:=H2.out.c_watches
  obtain⟨nw2,hnw2⟩:∃ n,M2.watches.xs.length=n:=⟨_,rfl⟩
  obtain⟨nr2,hnr2⟩:∃ n,rw2.xs.length=n:=⟨_,rfl⟩
  have hnb2:nr2≤1000000+0:=by rw[←hnr2];exact HRB2.out _ (List.mem_of_getElem? hrw2)
  rw[hbw2,hnw2] at c2
  rw[hnr2] at o2
  rw[hnw2] at hyl2
  simp only[Option.map_some] at c2
  have hrow2:=H2.out.row_watches hrw2
  unfold Fl.hp at hrow2
  rw[hnr2] at hrow2
  have HROW2:=Lib.hid hrow2
  have HRW2:=Lib.hid hrw2
  have HBW2:=Lib.hid hbw2
  have HNW2:=Lib.hid hnw2
  have HNR2:=Lib.hid hnr2
  have HYE2:=Lib.hid hy2
  have y2a:(0:Int)≤(y2:Int):=by omega
  have y2b:(y2:Int)<(nw2:Int):=by omega
  have q20:∀ o,(w2.alloc o).cell? ⟨p,6,none⟩=some (.slice (some ⟨bw2,0,none⟩) nw2 M2.watches.c):=fun o=>(World.cell?_alloc_some _ _ _ (by rw[c2];rfl)).trans c2
  have q21:∀ o,(w2.alloc o).cell? ⟨b0,0,none⟩=some (.slice (some ⟨b,0,none⟩) ln r.c):=fun o=>(World.cell?_alloc_some _ _ _ (by rw[g0];rfl)).trans g0
  have q22:∀ o,(w2.alloc o).cell? ⟨b,0,none⟩=some (.int .u32 y2):=fun o=>(World.cell?_alloc_some _ _ _ (by rw[e4];rfl)).trans e4
  have q23:∀ o,(w2.alloc o).cell? ⟨bw2,y2,none⟩=some (.slice (rw2.a.map fun b=>⟨b,0,none⟩) nr2 rw2.c):=fun o=>(World.cell?_alloc_some _ _ _ (by rw[o2];rfl)).trans o2
  have HP2:=Lib.hid (show ∀ (b' c':Nat) (w5:World),St B w0 w5 (star (sl (some b') (nr2+1) c' 3 1 (rw2.xs.map vN++[vN n])) (hole_watches p M2 y2 (star (pt b0 123 [.slice (some ⟨b,0,none⟩) ln r.c,.int .i64 d]) F))) →
    (w5.cell? ⟨p,6,none⟩=some (.slice (some ⟨bw2,0,none⟩) nw2 M2.watches.c)∧w5.cell? ⟨b0,0,none⟩=some (.slice (some ⟨b,0,none⟩) ln r.c)∧w5.cell? ⟨b,0,none⟩=some (.int .u32 y2)∧w5.cell? ⟨bw2,y2,none⟩=some (.slice (rw2.a.map fun b=>⟨b,0,none⟩) nr2 rw2.c))∧w5.frozen? ⟨bw2,y2,none⟩=false∧At B w0 (w5.setCell ⟨bw2,y2,none⟩ (.slice (some ⟨b',0,none⟩) (nr2+1) c')) p (M2.u_watches ⟨M2.watches.a,M2.watches.c,M2.watches.xs.set y2 ⟨some b',c',rw2.xs++[n]⟩⟩) (star (pt b0 123 [.slice (some ⟨b,0,none⟩) ln r.c,.int .i64 d]) F) from fun b' c' w5 h6=>by
   obtain⟨k1,⟨k2,k3⟩,k4⟩:=H2.out.watch_push HRW2.out HBW2.out HNR2.out HNW2.out _ _ _ h6
   have k5:=At.unrow_e_cls HRW2.out h6 HI2.out HB.out (j:=0) (x:=y2) (by rw[gn_some r.xs 0 (by rw[HLN.out];omega),HYE2.out])
   have k6:=At.unrow_box HRW2.out h6 0
   simp only[List.getElem?_cons_zero] at k6
   exact⟨⟨k1,k6,k5,k2⟩,k3,k4⟩)
  clear hrow2 hrw2 hbw2 hnr2 hnw2 hy2
  go_wp2
  refine wp_region_E 22 (fun V:World=>V.cell? ⟨p,6,none⟩=some (.slice (some ⟨bw2,0,none⟩) nw2 M2.watches.c)∧V.cell? ⟨b0,0,none⟩=some (.slice (some ⟨b,0,none⟩) ln r.c)∧V.cell? ⟨b,0,none⟩=some (.int .u32 y2)∧V.cell? ⟨bw2,y2,none⟩=some (.slice (rw2.a.map fun b=>⟨b,0,none⟩) nr2 rw2.c)) (by kernel_rfl) ?_
  have HS0:(fun V:World=>V.cell? ⟨p,6,none⟩=some (.slice (some ⟨bw2,0,none⟩) nw2 M2.watches.c)∧V.cell? ⟨b0,0,none⟩=some (.slice (some ⟨b,0,none⟩) ln r.c)∧V.cell? ⟨b,0,none⟩=some (.int .u32 y2)∧V.cell? ⟨bw2,y2,none⟩=some (.slice (rw2.a.map fun b=>⟨b,0,none⟩) nr2 rw2.c)) w2.drew:=⟨c2,g0,e4,o2⟩
  refine E_takeL (i:=0) (v:=?v7) rfl (by kernel_rfl) (by kernel_rfl) (by kernel_rfl) (by kernel_rfl) (fun _ _ _ h=>h) rfl ?hy7 HS0 ?_
  case hy7 =>
   intro V hSV
   try dsimp only at hSV
   go_simp
   try with_reducible rfl
  try simp only[Act.put,List.setIfInBounds_toArray,List.set_cons_zero,List.set_cons_succ]
  refine E_takeL (i:=1) (v:=?v8) rfl (by kernel_rfl) (by kernel_rfl) (by kernel_rfl) (by kernel_rfl) (fun _ _ _ h=>h) rfl ?hy8 HS0 ?_
  case hy8 =>
   intro V hSV
   try dsimp only at hSV
   go_simp
   try with_reducible rfl
  try simp only[Act.put,List.setIfInBounds_toArray,List.set_cons_zero,List.set_cons_succ]
  refine E_takeL (i:=2) (v:=?v9) rfl (by kernel_rfl) (by kernel_rfl) (by kernel_rfl) (by kernel_rfl) (fun _ _ _ h=>h) rfl ?hy9 HS0 ?_
  case hy9 =>
   intro V hSV
   try dsimp only at hSV
   go_simp
   try with_reducible rfl
  try simp only[Act.put,List.setIfInBounds_toArray,List.set_cons_zero,List.set_cons_succ]
  refine E_takeL (i:=3) (v:=?v10) rfl (by kernel_rfl) (by kernel_rfl) (by kernel_rfl) (by kernel_rfl) (fun _ _ _ h=>h) rfl ?hy10 HS0 ?_
  case hy10 =>
   intro V hSV
   try dsimp only at hSV
   go_simp
   try with_reducible rfl
  try simp only[Act.put,List.setIfInBounds_toArray,List.set_cons_zero,List.set_cons_succ]
  refine E_takeL (i:=4) (v:=?v11) rfl (by kernel_rfl) (by kernel_rfl) (by kernel_rfl) (by kernel_rfl) (fun _ _ _ h=>h) rfl ?hy11 HS0 ?_
  case hy11 =>
   intro V hSV
   try dsimp only at hSV
   go_simp
   try with_reducible rfl
  try simp only[Act.put,List.setIfInBounds_toArray,List.set_cons_zero,List.set_cons_succ]
  refine E_takeL (i:=5) (v:=?v12) rfl (by kernel_rfl) (by kernel_rfl) (by kernel_rfl) (by kernel_rfl) (fun _ _ _ h=>h) rfl ?hy12 HS0 ?_
  case hy12 =>
   intro V hSV
   try dsimp only at hSV
   go_simp
   try with_reducible rfl
  try simp only[Act.put,List.setIfInBounds_toArray,List.set_cons_zero,List.set_cons_succ]
  refine E_takeL (i:=6) (v:=?v13) rfl (by kernel_rfl) (by kernel_rfl) (by kernel_rfl) (by kernel_rfl) (fun _ _ _ h=>h) rfl ?hy13 HS0 ?_
  case hy13 =>
   intro V hSV
   try dsimp only at hSV
   go_simp
   try with_reducible rfl
  try simp only[Act.put,List.setIfInBounds_toArray,List.set_cons_zero,List.set_cons_succ]
  refine E_takeL (i:=7) (v:=?v14) rfl (by kernel_rfl) (by kernel_rfl) (by kernel_rfl) (by kernel_rfl) (fun _ _ _ h=>h) rfl ?hy14 HS0 ?_
  case hy14 =>
   intro V hSV
   try dsimp only at hSV
   go_simp
   try with_reducible rfl
  try simp only[Act.put,List.setIfInBounds_toArray,List.set_cons_zero,List.set_cons_succ]
  refine E_takeL (i:=8) (v:=?v15) rfl (by kernel_rfl) (by kernel_rfl) (by kernel_rfl) (by kernel_rfl) (fun _ _ _ h=>h) rfl ?hy15 HS0 ?_
  case hy15 =>
   intro V hSV
   try dsimp only at hSV
   go_simp
   try with_reducible rfl
  try simp only[Act.put,List.setIfInBounds_toArray,List.set_cons_zero,List.set_cons_succ]
  refine E_takeL (i:=9) (v:=?v16) rfl (by kernel_rfl) (by kernel_rfl) (by kernel_rfl) (by kernel_rfl) (fun _ _ _ h=>h) rfl ?hy16 HS0 ?_
  case hy16 =>
   intro V hSV
   try dsimp only at hSV
   go_simp
   try with_reducible rfl
  try simp only[Act.put,List.setIfInBounds_toArray,List.set_cons_zero,List.set_cons_succ]
  refine E_takeL (i:=10) (v:=?v17) rfl (by kernel_rfl) (by kernel_rfl) (by kernel_rfl) (by kernel_rfl) (fun _ _ _ h=>h) rfl ?hy17 HS0 ?_
  case hy17 =>
   intro V hSV
   try dsimp only at hSV
   go_simp
   try with_reducible rfl
  try simp only[Act.put,List.setIfInBounds_toArray,List.set_cons_zero,List.set_cons_succ]
  refine E_takeL (i:=11) (v:=?v18) rfl (by kernel_rfl) (by kernel_rfl) (by kernel_rfl) (by kernel_rfl) (fun _ _ _ h=>h) rfl ?hy18 HS0 ?_
  case hy18 =>
   intro V hSV
   try dsimp only at hSV
   go_simp
   try with_reducible rfl
  try simp only[Act.put,List.setIfInBounds_toArray,List.set_cons_zero,List.set_cons_succ]
  refine E_takeL (i:=12) (v:=?v19) rfl (by kernel_rfl) (by kernel_rfl) (by kernel_rfl) (by kernel_rfl) (fun _ _ _ h=>h) rfl ?hy19 HS0 ?_
  case hy19 =>
   intro V hSV
   try dsimp only at hSV
   go_simp
   try with_reducible rfl
  try simp only[Act.put,List.setIfInBounds_toArray,List.set_cons_zero,List.set_cons_succ]
  refine E_takeL (i:=13) (v:=?v20) rfl (by kernel_rfl) (by kernel_rfl) (by kernel_rfl) (by kernel_rfl) (fun _ _ _ h=>h) rfl ?hy20 HS0 ?_
  case hy20 =>
   intro V hSV
   try dsimp only at hSV
   go_simp
   try with_reducible rfl
  try simp only[Act.put,List.setIfInBounds_toArray,List.set_cons_zero,List.set_cons_succ]
  refine E_takeL (i:=14) (v:=?v21) rfl (by kernel_rfl) (by kernel_rfl) (by kernel_rfl) (by kernel_rfl) (fun _ _ _ h=>h) rfl ?hy21 HS0 ?_
  case hy21 =>
   intro V hSV
   try dsimp only at hSV
   go_simp
   try with_reducible rfl
  try simp only[Act.put,List.setIfInBounds_toArray,List.set_cons_zero,List.set_cons_succ]
  refine E_takeL (i:=15) (v:=?v22) rfl (by kernel_rfl) (by kernel_rfl) (by kernel_rfl) (by kernel_rfl) (fun _ _ _ h=>h) rfl ?hy22 HS0 ?_
  case hy22 =>
   intro V hSV
   try dsimp only at hSV
   go_simp
   try with_reducible rfl
  try simp only[Act.put,List.setIfInBounds_toArray,List.set_cons_zero,List.set_cons_succ]
  refine E_takeL (i:=16) (v:=?v23) rfl (by kernel_rfl) (by kernel_rfl) (by kernel_rfl) (by kernel_rfl) (fun _ _ _ h=>h) rfl ?hy23 HS0 ?_
  case hy23 =>
   intro V hSV
   try dsimp only at hSV
   go_simp
   try with_reducible rfl
  try simp only[Act.put,List.setIfInBounds_toArray,List.set_cons_zero,List.set_cons_succ]
  refine E_takeL (i:=17) (v:=?v24) rfl (by kernel_rfl) (by kernel_rfl) (by kernel_rfl) (by kernel_rfl) (fun _ _ _ h=>h) rfl ?hy24 HS0 ?_
  case hy24 =>
   intro V hSV
   try dsimp only at hSV
   go_simp
   try with_reducible rfl
  try simp only[Act.put,List.setIfInBounds_toArray,List.set_cons_zero,List.set_cons_succ]
  refine E_takeL (i:=18) (v:=?v25) rfl (by kernel_rfl) (by kernel_rfl) (by kernel_rfl) (by kernel_rfl) (fun _ _ _ h=>h) rfl ?hy25 HS0 ?_
  case hy25 =>
   intro V hSV
   try dsimp only at hSV
   go_simp
   try with_reducible rfl
  try simp only[Act.put,List.setIfInBounds_toArray,List.set_cons_zero,List.set_cons_succ]
  refine E_onlyL (i:=19) (by kernel_rfl) rfl (fun K hK=>?_)
  go_simp
  refine hK _ _ (⟨q20 _,q21 _,q22 _,q23 _⟩) ?_
  clear hK K
  try simp only[Act.put,List.setIfInBounds_toArray,List.set_cons_zero,List.set_cons_succ]
  refine E_onlyL (i:=20) (by kernel_rfl) rfl (fun K hK=>?_)
  refine step_append1 (by rfl) _ _ 27 3 (.int .i64 0) 8 (by rfl) Tryz.underlying27 Tryz.infoIntS rfl (HROW2.out.drew.alloc _) (by rfl) w2.heap.size (.int .i64 n) (by rfl) (cell_new w2.drew _ _) rfl (by omega) (by simp only[maxLen];omega) ?_
  intro b2' c2' v2 h6 _
  obtain⟨k1,k2,k3⟩:=HP2.out _ _ _ h6
  have K2:=Lib.hid k3
  clear k3 h6
  have HS2:(fun V:World=>V.cell? ⟨p,6,none⟩=some (.slice (some ⟨bw2,0,none⟩) nw2 M2.watches.c)∧V.cell? ⟨b0,0,none⟩=some (.slice (some ⟨b,0,none⟩) ln r.c)∧V.cell? ⟨b,0,none⟩=some (.int .u32 y2)∧V.cell? ⟨bw2,y2,none⟩=some (.slice (rw2.a.map fun b=>⟨b,0,none⟩) nr2 rw2.c)) _:=k1
  refine hK _ _ HS2 ?_
  clear hK K
  try simp only[Act.put,List.setIfInBounds_toArray,List.set_cons_zero,List.set_cons_succ]
  refine E_takeL (i:=21) (v:=?v26) rfl (by kernel_rfl) (by kernel_rfl) (by kernel_rfl) (by kernel_rfl) (fun _ _ _ h=>h) rfl ?hy26 HS2 ?_
  case hy26 =>
   intro V hSV
   try dsimp only at hSV
   go_simp
   try with_reducible rfl
  try simp only[Act.put,List.setIfInBounds_toArray,List.set_cons_zero,List.set_cons_succ]
  refine E_lastL (by kernel_rfl) rfl (by kernel_rfl) (fun K hK=>?_)
  go_simp
  refine hK _ _ ?_
  clear hK K
  clear HS0 HS2 k1 k2 q20 q21 q22 q23 c2 g0 e4 o2 HP2 HROW2
  have h3:=K2.out
  clear K2
  revert h3
  generalize v2.setCell ⟨bw2,y2,none⟩ (.slice (some ⟨b2',0,none⟩) (nr2+1) c2')=w3
  intro h3
  obtain⟨M3,hM3⟩:∃ N,M2.u_watches ⟨M2.watches.a,M2.watches.c,M2.watches.xs.set y2 ⟨some b2',c2',rw2.xs++[n]⟩⟩=N:=⟨_,rfl⟩
  rw[hM3] at h3
  have HI3:Hid (M3.cls.xs[n]?=some (r,d)):=Lib.hid (by rw[←hM3];exact HI2.out)
  have HC3:Hid (M3.cls.xs=M.cls.xs++[(r,d)]):=Lib.hid (by rw[←hM3];exact HC2.out)
  have HWL3:Hid (M3.watches.xs.length=M.watches.xs.length):=Lib.hid (by rw[←hM3];show (M2.watches.xs.set _ _).length=_;rw[List.length_set];exact HWL2.out)
  have HRB3:Hid (∀ x∈M3.watches.xs,x.xs.length≤1000000+1):=Lib.hid (by rw[←hM3];intro x hx;rcases List.mem_or_eq_of_mem_set hx with hx | rfl;(have:=HRB2.out x hx;omega);(show (rw2.xs++[n]).length≤_);rw[List.length_append,HNR2.out];simp;omega)
  have HSV3:Hid (M3.sv=M2.sv.watch y2 n):=Lib.hid (by rw[←hM3];exact sv_watch HRW2.out)
  obtain⟨g0,g0f⟩:=h3.box_cell 0
  simp only[List.getElem?_cons_zero] at g0
  have H3:=Lib.hid h3
  clear h3 hM3 g0f
  obtain⟨y3,hy3⟩:∃ y,gn r.xs 1=y:=⟨_,rfl⟩
  obtain⟨e5,_⟩:=H3.out.e_cls HI3.out HB.out (j:=1) (x:=y3) (by rw[gn_some r.xs 1 (by rw[HLN.out];omega),hy3])
  have hyl3:y3<M3.watches.xs.length:=by rw[HWL3.out,←hy3];exact HYH.out 1 (by omega)
  obtain⟨rw3,hrw3⟩:∃ x,M3.watches.xs[y3]?=some x:=⟨M3.watches.xs[y3],by simp[hyl3]⟩
  obtain⟨bw3,hbw3⟩:=H3.out.b_watches (by omega)
  obtain⟨o3,_⟩:=H3.out.o_watches hbw3 hrw3
  have c3:=H3.out.c_watches
  obtain⟨nw3,hnw3⟩:∃ n,M3.watches.xs.length=n:=⟨_,rfl⟩
  obtain⟨nr3,hnr3⟩:∃ n,rw3.xs.length=n:=⟨_,rfl⟩
  have hnb3:nr3≤1000000+1:=by rw[←hnr3];exact HRB3.out _ (List.mem_of_getElem? hrw3)
  rw[hbw3,hnw3] at c3
  rw[hnr3] at o3
  rw[hnw3] at hyl3
  simp only[Option.map_some] at c3
  have hrow3:=H3.out.row_watches hrw3
  unfold Fl.hp at hrow3
  rw[hnr3] at hrow3
  have HROW3:=Lib.hid hrow3
  have HRW3:=Lib.hid hrw3
  have HBW3:=Lib.hid hbw3
  have HNW3:=Lib.hid hnw3
  have HNR3:=Lib.hid hnr3
  have HYE3:=Lib.hid hy3
  have y3a:(0:Int)≤(y3:Int):=by omega
  have y3b:(y3:Int)<(nw3:Int):=by omega
  have q30:∀ o,(w3.alloc o).cell? ⟨p,6,none⟩=some (.slice (some ⟨bw3,0,none⟩) nw3 M3.watches.c):=fun o=>(World.cell?_alloc_some _ _ _ (by rw[c3];rfl)).trans c3
  have q31:∀ o,(w3.alloc o).cell? ⟨b0,0,none⟩=some (.slice (some ⟨b,0,none⟩) ln r.c):=fun o=>(World.cell?_alloc_some _ _ _ (by rw[g0];rfl)).trans g0
  have q32:∀ o,(w3.alloc o).cell? ⟨b,1,none⟩=some (.int .u32 y3):=fun o=>(World.cell?_alloc_some _ _ _ (by rw[e5];rfl)).trans e5
  have q33:∀ o,(w3.alloc o).cell? ⟨bw3,y3,none⟩=some (.slice (rw3.a.map fun b=>⟨b,0,none⟩) nr3 rw3.c):=fun o=>(World.cell?_alloc_some _ _ _ (by rw[o3];rfl)).trans o3
  have HP3:=Lib.hid (show ∀ (b' c':Nat) (w5:World),St B w0 w5 (star (sl (some b') (nr3+1) c' 3 1 (rw3.xs.map vN++[vN n])) (hole_watches p M3 y3 (star (pt b0 123 [.slice (some ⟨b,0,none⟩) ln r.c,.int .i64 d]) F))) →
    (w5.cell? ⟨p,6,none⟩=some (.slice (some ⟨bw3,0,none⟩) nw3 M3.watches.c)∧w5.cell? ⟨b0,0,none⟩=some (.slice (some ⟨b,0,none⟩) ln r.c)∧w5.cell? ⟨b,1,none⟩=some (.int .u32 y3)∧w5.cell? ⟨bw3,y3,none⟩=some (.slice (rw3.a.map fun b=>⟨b,0,none⟩) nr3 rw3.c))∧w5.frozen? ⟨bw3,y3,none⟩=false∧At B w0 (w5.setCell ⟨bw3,y3,none⟩ (.slice (some ⟨b',0,none⟩) (nr3+1) c')) p (M3.u_watches ⟨M3.watches.a,M3.watches.c,M3.watches.xs.set y3 ⟨some b',c',rw3.xs++[n]⟩⟩) (star (pt b0 123 [.slice (some ⟨b,0,none⟩) ln r.c,.int .i64 d]) F) from fun b' c' w5 h6=>by
   obtain⟨k1,⟨k2,k3⟩,k4⟩:=H3.out.watch_push HRW3.out HBW3.out HNR3.out HNW3.out _ _ _ h6
   have k5:=At.unrow_e_cls HRW3.out h6 HI3.out HB.out (j:=1) (x:=y3) (by rw[gn_some r.xs 1 (by rw[HLN.out];omega),HYE3.out])
   have k6:=At.unrow_box HRW3.out h6 0
   simp only[List.getElem?_cons_zero] at k6
   exact⟨⟨k1,k6,k5,k2⟩,k3,k4⟩)
  clear hrow3 hrw3 hbw3 hnr3 hnw3 hy3
  go_wp2
  refine wp_region_E 22 (fun V:World=>V.cell? ⟨p,6,none⟩=some (.slice (some ⟨bw3,0,none⟩) nw3 M3.watches.c)∧V.cell? ⟨b0,0,none⟩=some (.slice (some ⟨b,0,none⟩) ln r.c)∧V.cell? ⟨b,1,none⟩=some (.int .u32 y3)∧V.cell? ⟨bw3,y3,none⟩=some (.slice (rw3.a.map fun b=>⟨b,0,none⟩) nr3 rw3.c)) (by kernel_rfl) ?_
  have HS0:(fun V:World=>V.cell? ⟨p,6,none⟩=some (.slice (some ⟨bw3,0,none⟩) nw3 M3.watches.c)∧V.cell? ⟨b0,0,none⟩=some (.slice (some ⟨b,0,none⟩) ln r.c)∧V.cell? ⟨b,1,none⟩=some (.int .u32 y3)∧V.cell? ⟨bw3,y3,none⟩=some (.slice (rw3.a.map fun b=>⟨b,0,none⟩) nr3 rw3.c)) w3.drew:=⟨c3,g0,e5,o3⟩
  refine E_takeL (i:=0) (v:=?v27) rfl (by kernel_rfl) (by kernel_rfl) (by kernel_rfl) (by kernel_rfl) (fun _ _ _ h=>h) rfl ?hy27 HS0 ?_
  case hy27 =>
   intro V hSV
   try dsimp only at hSV
   go_simp
   try with_reducible rfl
  try simp only[Act.put,List.setIfInBounds_toArray,List.set_cons_zero,List.set_cons_succ]
  refine E_takeL (i:=1) (v:=?v28) rfl (by kernel_rfl) (by kernel_rfl) (by kernel_rfl) (by kernel_rfl) (fun _ _ _ h=>h) rfl ?hy28 HS0 ?_
  case hy28 =>
   intro V hSV
   try dsimp only at hSV
   go_simp
   try with_reducible rfl
  try simp only[Act.put,List.setIfInBounds_toArray,List.set_cons_zero,List.set_cons_succ]
  refine E_takeL (i:=2) (v:=?v29) rfl (by kernel_rfl) (by kernel_rfl) (by kernel_rfl) (by kernel_rfl) (fun _ _ _ h=>h) rfl ?hy29 HS0 ?_
  case hy29 =>
   intro V hSV
   try dsimp only at hSV
   go_simp
   try with_reducible rfl
  try simp only[Act.put,List.setIfInBounds_toArray,List.set_cons_zero,List.set_cons_succ]
  refine E_takeL (i:=3) (v:=?v30) rfl (by kernel_rfl) (by kernel_rfl) (by kernel_rfl) (by kernel_rfl) (fun _ _ _ h=>h) rfl ?hy30 HS0 ?_
  case hy30 =>
   intro V hSV
   try dsimp only at hSV
   go_simp
   try with_reducible rfl
  try simp only[Act.put,List.setIfInBounds_toArray,List.set_cons_zero,List.set_cons_succ]
  refine E_takeL (i:=4) (v:=?v31) rfl (by kernel_rfl) (by kernel_rfl) (by kernel_rfl) (by kernel_rfl) (fun _ _ _ h=>h) rfl ?hy31 HS0 ?_
  case hy31 =>
   intro V hSV
   try dsimp only at hSV
   go_simp
   try with_reducible rfl
  try simp only[Act.put,List.setIfInBounds_toArray,List.set_cons_zero,List.set_cons_succ]
  refine E_takeL (i:=5) (v:=?v32) rfl (by kernel_rfl) (by kernel_rfl) (by kernel_rfl) (by kernel_rfl) (fun _ _ _ h=>h) rfl ?hy32 HS0 ?_
  case hy32 =>
   intro V hSV
   try dsimp only at hSV
   go_simp
   try with_reducible rfl
  try simp only[Act.put,List.setIfInBounds_toArray,List.set_cons_zero,List.set_cons_succ]
  refine E_takeL (i:=6) (v:=?v33) rfl (by kernel_rfl) (by kernel_rfl) (by kernel_rfl) (by kernel_rfl) (fun _ _ _ h=>h) rfl ?hy33 HS0 ?_
  case hy33 =>
   intro V hSV
   try dsimp only at hSV
   go_simp
   try with_reducible rfl
  try simp only[Act.put,List.setIfInBounds_toArray,List.set_cons_zero,List.set_cons_succ]
  refine E_takeL (i:=7) (v:=?v34) rfl (by kernel_rfl) (by kernel_rfl) (by kernel_rfl) (by kernel_rfl) (fun _ _ _ h=>h) rfl ?hy34 HS0 ?_
  case hy34 =>
   intro V hSV
   try dsimp only at hSV
   go_simp
   try with_reducible rfl
  try simp only[Act.put,List.setIfInBounds_toArray,List.set_cons_zero,List.set_cons_succ]
  refine E_takeL (i:=8) (v:=?v35) rfl (by kernel_rfl) (by kernel_rfl) (by kernel_rfl) (by kernel_rfl) (fun _ _ _ h=>h) rfl ?hy35 HS0 ?_
  case hy35 =>
   intro V hSV
   try dsimp only at hSV
   go_simp
   try with_reducible rfl
  try simp only[Act.put,List.setIfInBounds_toArray,List.set_cons_zero,List.set_cons_succ]
  refine E_takeL (i:=9) (v:=?v36) rfl (by kernel_rfl) (by kernel_rfl) (by kernel_rfl) (by kernel_rfl) (fun _ _ _ h=>h) rfl ?hy36 HS0 ?_
  case hy36 =>
   intro V hSV
   try dsimp only at hSV
   go_simp
   try with_reducible rfl
  try simp only[Act.put,List.setIfInBounds_toArray,List.set_cons_zero,List.set_cons_succ]
  refine E_takeL (i:=10) (v:=?v37) rfl (by kernel_rfl) (by kernel_rfl) (by kernel_rfl) (by kernel_rfl) (fun _ _ _ h=>h) rfl ?hy37 HS0 ?_
  case hy37 =>
   intro V hSV
   try dsimp only at hSV
   go_simp
   try with_reducible rfl
  try simp only[Act.put,List.setIfInBounds_toArray,List.set_cons_zero,List.set_cons_succ]
  refine E_takeL (i:=11) (v:=?v38) rfl (by kernel_rfl) (by kernel_rfl) (by kernel_rfl) (by kernel_rfl) (fun _ _ _ h=>h) rfl ?hy38 HS0 ?_
  case hy38 =>
   intro V hSV
   try dsimp only at hSV
   go_simp
   try with_reducible rfl
  try simp only[Act.put,List.setIfInBounds_toArray,List.set_cons_zero,List.set_cons_succ]
  refine E_takeL (i:=12) (v:=?v39) rfl (by kernel_rfl) (by kernel_rfl) (by kernel_rfl) (by kernel_rfl) (fun _ _ _ h=>h) rfl ?hy39 HS0 ?_
  case hy39 =>
   intro V hSV
   try dsimp only at hSV
   go_simp
   try with_reducible rfl
  try simp only[Act.put,List.setIfInBounds_toArray,List.set_cons_zero,List.set_cons_succ]
  refine E_takeL (i:=13) (v:=?v40) rfl (by kernel_rfl) (by kernel_rfl) (by kernel_rfl) (by kernel_rfl) (fun _ _ _ h=>h) rfl ?hy40 HS0 ?_
  case hy40 =>
   intro V hSV
   try dsimp only at hSV
   go_simp
   try with_reducible rfl
  try simp only[Act.put,List.setIfInBounds_toArray,List.set_cons_zero,List.set_cons_succ]
  refine E_takeL (i:=14) (v:=?v41) rfl (by kernel_rfl) (by kernel_rfl) (by kernel_rfl) (by kernel_rfl) (fun _ _ _ h=>h) rfl ?hy41 HS0 ?_
  case hy41 =>
   intro V hSV
   try dsimp only at hSV
   go_simp
   try with_reducible rfl
  try simp only[Act.put,List.setIfInBounds_toArray,List.set_cons_zero,List.set_cons_succ]
  refine E_takeL (i:=15) (v:=?v42) rfl (by kernel_rfl) (by kernel_rfl) (by kernel_rfl) (by kernel_rfl) (fun _ _ _ h=>h) rfl ?hy42 HS0 ?_
  case hy42 =>
   intro V hSV
   try dsimp only at hSV
   go_simp
   try with_reducible rfl
  try simp only[Act.put,List.setIfInBounds_toArray,List.set_cons_zero,List.set_cons_succ]
  refine E_takeL (i:=16) (v:=?v43) rfl (by kernel_rfl) (by kernel_rfl) (by kernel_rfl) (by kernel_rfl) (fun _ _ _ h=>h) rfl ?hy43 HS0 ?_
  case hy43 =>
   intro V hSV
   try dsimp only at hSV
   go_simp
   try with_reducible rfl
  try simp only[Act.put,List.setIfInBounds_toArray,List.set_cons_zero,List.set_cons_succ]
  refine E_takeL (i:=17) (v:=?v44) rfl (by kernel_rfl) (by kernel_rfl) (by kernel_rfl) (by kernel_rfl) (fun _ _ _ h=>h) rfl ?hy44 HS0 ?_
  case hy44 =>
   intro V hSV
   try dsimp only at hSV
   go_simp
   try with_reducible rfl
  try simp only[Act.put,List.setIfInBounds_toArray,List.set_cons_zero,List.set_cons_succ]
  refine E_takeL (i:=18) (v:=?v45) rfl (by kernel_rfl) (by kernel_rfl) (by kernel_rfl) (by kernel_rfl) (fun _ _ _ h=>h) rfl ?hy45 HS0 ?_
  case hy45 =>
   intro V hSV
   try dsimp only at hSV
   go_simp
   try with_reducible rfl
  try simp only[Act.put,List.setIfInBounds_toArray,List.set_cons_zero,List.set_cons_succ]
  refine E_onlyL (i:=19) (by kernel_rfl) rfl (fun K hK=>?_)
  go_simp
  refine hK _ _ (⟨q30 _,q31 _,q32 _,q33 _⟩) ?_
  clear hK K
  try simp only[Act.put,List.setIfInBounds_toArray,List.set_cons_zero,List.set_cons_succ]
  refine E_onlyL (i:=20) (by kernel_rfl) rfl (fun K hK=>?_)
  refine step_append1 (by rfl) _ _ 27 3 (.int .i64 0) 8 (by rfl) Tryz.underlying27 Tryz.infoIntS rfl (HROW3.out.drew.alloc _) (by rfl) w3.heap.size (.int .i64 n) (by rfl) (cell_new w3.drew _ _) rfl (by omega) (by simp only[maxLen];omega) ?_
  intro b3' c3' v3 h6 _
  obtain⟨k1,k2,k3⟩:=HP3.out _ _ _ h6
  have K3:=Lib.hid k3
  clear k3 h6
  have HS2:(fun V:World=>V.cell? ⟨p,6,none⟩=some (.slice (some ⟨bw3,0,none⟩) nw3 M3.watches.c)∧V.cell? ⟨b0,0,none⟩=some (.slice (some ⟨b,0,none⟩) ln r.c)∧V.cell? ⟨b,1,none⟩=some (.int .u32 y3)∧V.cell? ⟨bw3,y3,none⟩=some (.slice (rw3.a.map fun b=>⟨b,0,none⟩) nr3 rw3.c)) _:=k1
  refine hK _ _ HS2 ?_
  clear hK K
  try simp only[Act.put,List.setIfInBounds_toArray,List.set_cons_zero,List.set_cons_succ]
  refine E_takeL (i:=21) (v:=?v46) rfl (by kernel_rfl) (by kernel_rfl) (by kernel_rfl) (by kernel_rfl) (fun _ _ _ h=>h) rfl ?hy46 HS2 ?_
  case hy46 =>
   intro V hSV
   try dsimp only at hSV
   go_simp
   try with_reducible rfl
  try simp only[Act.put,List.setIfInBounds_toArray,List.set_cons_zero,List.set_cons_succ]
  refine E_lastL (by kernel_rfl) rfl (by kernel_rfl) (fun K hK=>?_)
  go_simp
  refine hK _ _ ?_
  clear hK K
  clear HS0 HS2 k1 k2 q30 q31 q32 q33 c3 g0 e5 o3 HP3 HROW3
  have h4:=K3.out
  clear K3
  revert h4
  generalize v3.setCell ⟨bw3,y3,none⟩ (.slice (some ⟨b3',0,none⟩) (nr3+1) c3')=w4
  intro h4
  obtain⟨M4,hM4⟩:∃ N,M3.u_watches ⟨M3.watches.a,M3.watches.c,M3.watches.xs.set y3 ⟨some b3',c3',rw3.xs++[n]⟩⟩=N:=⟨_,rfl⟩
  rw[hM4] at h4
  have HI4:Hid (M4.cls.xs[n]?=some (r,d)):=Lib.hid (by rw[←hM4];exact HI3.out)
  have HC4:Hid (M4.cls.xs=M.cls.xs++[(r,d)]):=Lib.hid (by rw[←hM4];exact HC3.out)
  have HWL4:Hid (M4.watches.xs.length=M.watches.xs.length):=Lib.hid (by rw[←hM4];show (M3.watches.xs.set _ _).length=_;rw[List.length_set];exact HWL3.out)
  have HRB4:Hid (∀ x∈M4.watches.xs,x.xs.length≤1000000+2):=Lib.hid (by rw[←hM4];intro x hx;rcases List.mem_or_eq_of_mem_set hx with hx | rfl;(have:=HRB3.out x hx;omega);(show (rw3.xs++[n]).length≤_);rw[List.length_append,HNR3.out];simp;omega)
  have HSV4:Hid (M4.sv=M3.sv.watch y3 n):=Lib.hid (by rw[←hM4];exact sv_watch HRW3.out)
  obtain⟨g0,g0f⟩:=h4.box_cell 0
  simp only[List.getElem?_cons_zero] at g0
  have H4:=Lib.hid h4
  clear h4 hM4 g0f
  go_wp2
  go_ret
  refine⟨by rw[HNN.out];rfl,M4,H4.out.dropF,?_,HC4.out⟩
  rw[HSV4.out,HSV3.out,HSV.out]
  unfold SM.attach
  rw[HLN.out,if_pos (by omega),HYE2.out,HYE3.out]
  show _=(({ M.sv with cls:=M.sv.cls++[(r.xs,d)] }:SM).watch y2 (M.cls.xs.map fun x=>(x.1.xs,x.2)).length).watch y3 (M.cls.xs.map fun x=>(x.1.xs,x.2)).length
  rw[List.length_map,HNN.out]
 ·have e1:decide ((1:Int)<(ln:Int))=false:=by simp;omega
  go_wp2
  go_ret
  refine⟨by rw[HNN.out];rfl,M2,H2.out.dropF,?_,HC2.out⟩
  rw[HSV.out]
  unfold SM.attach
  rw[HLN.out,if_neg (by omega)]
end
end Go.Proofs.YthbbmdnfkkffjaaGreat

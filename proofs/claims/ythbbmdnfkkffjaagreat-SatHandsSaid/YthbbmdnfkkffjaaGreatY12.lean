/-
  Parts of the proof, joined by program: Att.
-/
import Derived.Test.YthbbmdnfkkffjaaGreatY11
import Derived.Test.YthbbmdnfkkffjaaGreatY01
import Derived.Lib.Hide
set_option maxHeartbeats 8000000
set_option maxRecDepth 100000
namespace Go.Proofs.aC
open Go Go.RowKit
theorem KI {P:Program} {w:World} {ops:Array Oper} {o:Oper} {a:Act} {K:Act→World→Prop} {Q:Exit→Act→World→Prop} {E:Prop} (hgd:o.guard=none) (s x:Operand) (t e:TypeId) (z:Value) (size bytes:Nat)
  (ho:o.op=.call { callee:=.builtin .append,args:=#[s,x],argTypes:=#[t,t] })
  (ht:P.underlying t=some (.slice e)) (hinfo:(P.info? e).map (fun i=>(i.zero,i.size,i.bytes))=some (some z,size,bytes)) (hzs:z.cells.size=size) (hsz:0<size)
  {B:Nat} {w0:World} {v:Option Nat} {n c:Nat} {xs:List Value} {F:HP} (hst:St B w0 w (star (sl v n c e size xs) F))
  (hs:a.eval s=.slice (v.map fun b=>⟨b,0,none⟩) n c) (b:Nat) (news:List Value) (hl:news.length=size) (hx:a.eval x=.slice (some ⟨b,0,none⟩) 1 1) (hc:∀ (j:Nat) (u:Value),news[j]?=some u→w.cell? ⟨b,j,none⟩=some u) (h1:∀ u∈news,u.oneCell'=true) (hb:(n+1)*bytes≤140737488355328) (hn:n+1≤maxLen)
  (h:∀ b' c' w',St B w0 w' (star (sl (some b') (n+1) c' e size (xs++news)) F)→(∀ k,k<w.heap.size→v≠some k→w'.heap[k]?=w.heap[k]?)→K (a.put o.dst (.slice (some ⟨b',0,none⟩) (n+1) c')) w') :
  if Region.wanted o (yielded ops a.tmps)=true then Oper.wp P o a w K Q else E:=by
 have hw:Region.wanted o (yielded ops a.tmps)=true:=by simp[Region.wanted,hgd]
 rw[if_pos hw];obtain⟨i,hi,hzz⟩:=Option.map_eq_some_iff.1 hinfo;simp only[Prod.mk.injEq] at hzz;obtain⟨hz0,hz1,hz2⟩:=hzz
 obtain⟨b',c',w',hr,h2,h3,_⟩:=kJ (P:=P) w0 w B t o.type e i z size bytes ht hi hz0 hz1 hz2 hzs hsz v n c xs F hst ⟨b,0,none⟩ 1 1 news (by omega)
  (fun j u hj=>by have:=hc j u hj;simp only[Addr.add,Nat.zero_add];split <;> simp_all) h1 hn hb (by omega)
 unfold Oper.wp execOp;simp only[iB] at hr;simp only[ho,resolve,invoke,builtin,Sem.run_bind,Sem.run_pure,Result.andThen_ok,List.map_toArray,List.map_cons,List.map_nil,hs,hx,hr];exact h b' c' w' h2 h3
theorem UM (w:World) (cs:List Value) (e:TypeId) (j:Nat) (u:Value) (h:cs[j]?=some u):(w.alloc (.cells cs.toArray e)).cell? ⟨w.heap.size,j,none⟩=some u:=by
 rw[cell_of_row _ _ _ _ _ _ (heap_alloc_new w _)];simpa using h
end Go.Proofs.aC
namespace Go.Proofs.YthbbmdnfkkffjaaGreat
open Go.RowKit Go.Proofs.aC Go.Proofs.au Go.Proofs.aA
theorem Tryz.QJ:(Tryz.prog.info? 123).map (fun i=>(i.zero,i.size,i.bytes))=some (some (.agg #[.slice none 0 0,.int .i64 0]),2,32):=by kernel_rfl
section
variable {B:Nat} {w0 w:World} {p:Nat} {M:MM} {F:HP}
theorem At.box (h:At B w0 w p M F) (cs:Array Value) (e:TypeId):At B w0 (w.alloc (.cells cs e)) p M (star (pt w.heap.size e cs.toList) F):=⟨(h.st.iC cs e).aB (by ac_rfl),h.bA⟩
theorem At.cu {b:Nat} {e:TypeId} {xs:List Value} (h:At B w0 w p M (star (pt b e xs) F)) (i:Nat):w.cell? ⟨b,i,none⟩=xs[i]?∧w.frozen? ⟨b,i,none⟩=false:=by
 have h1:St B w0 w (star (pt b e xs) (star (stars (parts p M)) F)):=h.st.aB (by ac_rfl);exact⟨h1.aG i,h1.bU i⟩
theorem At.Fy {bw y n nr:Nat} {mU:Fl Nat} {ref:Nat} (h5:At B w0 w p M F) (hrw:M.aj.xs[y]?=some mU) (hbw:M.aj.a=some bw) (hnr:mU.xs.length=nr) (hn:M.aj.xs.length=n) (b' c':Nat) (w5:World)
  (h6:St B w0 w5 (star (sl (some b') (nr+1) c' 3 1 (mU.xs.map vN++[vN ref])) (dI p M y F))) :
  w5.cell? ⟨p,6,none⟩=some (.slice (some ⟨bw,0,none⟩) n M.aj.c)∧(w5.cell? ⟨bw,y,none⟩=some (.slice (mU.a.map fun b=>⟨b,0,none⟩) nr mU.c)∧w5.frozen? ⟨bw,y,none⟩=false) ∧
   At B w0 (w5.setCell ⟨bw,y,none⟩ (.slice (some ⟨b',0,none⟩) (nr+1) c')) p (M.aY ⟨M.aj.a,M.aj.c,M.aj.xs.set y ⟨some b',c',mU.xs++[ref]⟩⟩) F:=by
 obtain⟨g1,g2,g3⟩:=At.qp (M:=M) (x:=ref) h5.bA hrw hbw hnr h6;exact⟨by rw[←hn];exact g1,g2,g3⟩
theorem At.Jc {i b:Nat} {e:TypeId} {xs:List Value} {r:Fl Nat} {Q:HP} (hi:M.aj.xs[i]?=some r) (h:St B w0 w (star Q (dI p M i (star (pt b e xs) F)))) (j:Nat):w.cell? ⟨b,j,none⟩=xs[j]?:=by
 have h1:=At.jQ hi h;have h2:St B w0 w (star (pt b e xs) (star (stars ((parts p M).set 20 (stars ((M.aj.rows 3 vN).set i Q)))) F)):=h1.aB (by ac_rfl);exact h2.aG j
theorem MH {y b' c' ref:Nat} {mU:Fl Nat} (hrw:M.aj.xs[y]?=some mU):MM.sv (M.aY ⟨M.aj.a,M.aj.c,M.aj.xs.set y ⟨some b',c',mU.xs++[ref]⟩⟩)=M.sv.watch y ref:=by
 unfold SM.watch;show ({ M.sv with aj:=(M.aj.xs.set y ⟨some b',c',mU.xs++[ref]⟩).map (·.xs) }:SM)={ M.sv with aj:=(M.aj.xs.map (·.xs)).set y (gN (M.aj.xs.map (·.xs)) y++[ref]) };have hgn:gN (M.aj.xs.map (·.xs)) y=mU.xs:=by simp[gN,List.getD_eq_getElem?_getD,hrw]
 rw[List.map_set,hgn]
theorem Fz (r:Fl Nat) (d:Int) (h:At B w0 w p M (star (r.hp 98 vL) F)) (hn:M.cls.xs.length≤1000000) (hrows:∀ x∈M.aj.xs,x.xs.length≤1000000) (hlv:∀ x∈r.xs,x<M.aj.xs.length) (hwl:M.aj.xs.length≤1000000) (hrl:r.xs.length≤1000000) :
  Calls Tryz.prog 104 #[.pointer (some ⟨p,0,none⟩),.agg #[r.v,vI d]] w fun e w'=>e=.returned (.int .i64 M.cls.xs.length) ∧
   ∃ M',At B w0 w' p M' F∧M'.sv=M.sv.attach r.xs d∧M'.cls.xs=M.cls.xs++[(r,d)]:=by
 obtain⟨n,hnn⟩:∃ n,M.cls.xs.length=n:=⟨_,rfl⟩;obtain⟨ln,hln⟩:∃ ln,r.xs.length=ln:=⟨_,rfl⟩;obtain⟨ra,hra⟩:∃ ra,(r.a.map fun b=>(⟨b,0,none⟩:Addr))=ra:=⟨_,rfl⟩;have I6:r.v=Value.slice ra ln r.c:=by unfold Fl.v;rw[hln,hra]
 obtain⟨b0,hb0⟩:∃ b0,w.heap.size=b0:=⟨_,rfl⟩
 have h1:At B w0 (w.alloc (.cells #[r.v,vI d] 123)) p M (star (pt b0 123 [r.v,vI d]) (star (r.hp 98 vL) F)):=by
  have:=h.box #[r.v,vI d] 123;rw[hb0] at this;exact this
 obtain⟨g0,WU⟩:=h1.cu 0;obtain⟨g1,g1f⟩:=h1.cu 1;have c5:=h1.uz;rw[hnn] at hn c5;rw[I6] at g0 h1 g1 WU g1f c5 ⊢;simp only[List.getElem?_cons_zero,List.getElem?_cons_succ] at g0 g1;have H:=zH h;have H1:=zH h1;have HNN:=zH hnn;have fP:=zH hln;have HR:=zH hrows;have Ig:=zH hlv;have jK:=zH hwl;rw[hln] at hrl;have Ie:=zH I6;have KJ:=zH hra;clear h h1 hnn hln hrows hlv hwl I6 hra;simp only[vI] at g0 g1 c5 WU g1f ⊢
 go_enter Tryz.func104,Tryz.ntmps104
 go_wp2
 revert c5 g0 g1 WU g1f;have H1':=H1.out;simp only[vI] at H1';clear H1;revert H1';generalize hW:w.alloc (.cells #[.slice ra ln r.c,.int .i64 d] 123)=w1;intro h1 g0 WU g1 g1f c5;clear hW;have H1:=zH h1
 have UK:=zH (show ∀ (b' c':Nat) (w5:World),St B w0 w5 (star (sl (some b') (n+1) c' 123 2 (jA M.cls.xs++[.slice ra ln r.c,.int .i64 d])) (star (stars ((parts p M).eraseIdx 17)) (star (pt b0 123 [.slice ra ln r.c,.int .i64 d]) (star (r.hp 98 vL) F)))) →
   w5.cell? ⟨p,5,none⟩=some (.slice (M.cls.a.map fun b=>⟨b,0,none⟩) n M.cls.c)∧w5.frozen? ⟨p,5,none⟩=false∧w5.cell? ⟨b0,0,none⟩=some (.slice ra ln r.c)∧w5.cell? ⟨b0,1,none⟩=some (.int .i64 d) ∧
   At B w0 (w5.setCell ⟨p,5,none⟩ (.slice (some ⟨b',0,none⟩) (n+1) c')) p (M.DZ ⟨some b',c',M.cls.xs++[(r,d)]⟩) (star (pt b0 123 [.slice ra ln r.c,.int .i64 d]) F) from fun b' c' w5 h6=>by
  have h7:St B w0 w5 (star (sl (some b') (n+1) c' 123 2 (jA M.cls.xs++[r.v,vI d])) (star (stars ((parts p M).eraseIdx 17)) (star (r.hp 98 vL) (star (pt b0 123 [.slice ra ln r.c,.int .i64 d]) F)))):=h6.aB (by rw[Ie.out];simp only[vI];ac_rfl);obtain⟨⟨k1,k2⟩,k3⟩:=At.aaP (M:=M) H.out.bA HNN.out h7;have k4:St B w0 w5 (star (pt b0 123 [.slice ra ln r.c,.int .i64 d]) (star (sl (some b') (n+1) c' 123 2 (jA M.cls.xs++[r.v,vI d])) (star (stars ((parts p M).eraseIdx 17)) (star (r.hp 98 vL) F)))):=h7.aB (by ac_rfl)
  exact⟨k1,k2,k4.aG 0,k4.aG 1,k3⟩)
 have HT:=zH (show St B w0 w1 (star (sl M.cls.a n M.cls.c 123 2 (jA M.cls.xs)) (star (stars ((parts p M).eraseIdx 17)) (star (pt b0 123 [.slice ra ln r.c,.int .i64 d]) (star (r.hp 98 vL) F)))) by have:=h1.WC;rw[HNN.out] at this;exact this);have q5:∀ o,(w1.alloc o).cell? ⟨p,5,none⟩=some (.slice (M.cls.a.map fun b=>⟨b,0,none⟩) n M.cls.c):=fun o=>(World.cell?_alloc_some _ _ _ (by rw[c5];rfl)).trans c5;have q0:∀ o,(w1.alloc o).cell? ⟨b0,0,none⟩=some (.slice ra ln r.c):=fun o=>(World.cell?_alloc_some _ _ _ (by rw[g0];rfl)).trans g0;have q1:∀ o,(w1.alloc o).cell? ⟨b0,1,none⟩=some (.int .i64 d):=fun o=>(World.cell?_alloc_some _ _ _ (by rw[g1];rfl)).trans g1;clear h1;refine dn 8 (fun V:World=>V.cell? ⟨p,5,none⟩=some (.slice (M.cls.a.map fun b=>⟨b,0,none⟩) n M.cls.c)∧V.cell? ⟨b0,0,none⟩=some (.slice ra ln r.c)∧V.cell? ⟨b0,1,none⟩=some (.int .i64 d)) (by kernel_rfl) ?_
 have bB:(fun V:World=>V.cell? ⟨p,5,none⟩=some (.slice (M.cls.a.map fun b=>⟨b,0,none⟩) n M.cls.c)∧V.cell? ⟨b0,0,none⟩=some (.slice ra ln r.c)∧V.cell? ⟨b0,1,none⟩=some (.int .i64 d)) w1.drew:=⟨c5,g0,g1⟩;refine ay (i:=0) (v:=?v1) rfl (by kernel_rfl) (by kernel_rfl) (by kernel_rfl) (by kernel_rfl) (fun _ _ _ h=>h) rfl ?hy1 bB ?_
 case hy1 =>
  intro V aF
  try dsimp only at aF
  go_simp
  try with_reducible rfl
 try simp only[Act.put,List.setIfInBounds_toArray,List.set_cons_zero,List.set_cons_succ]
 refine ay (i:=1) (v:=?v2) rfl (by kernel_rfl) (by kernel_rfl) (by kernel_rfl) (by kernel_rfl) (fun _ _ _ h=>h) rfl ?hy2 bB ?_
 case hy2 =>
  intro V aF
  try dsimp only at aF
  go_simp
  try with_reducible rfl
 try simp only[Act.put,List.setIfInBounds_toArray,List.set_cons_zero,List.set_cons_succ]
 refine ay (i:=2) (v:=?v3) rfl (by kernel_rfl) (by kernel_rfl) (by kernel_rfl) (by kernel_rfl) (fun _ _ _ h=>h) rfl ?hy3 bB ?_
 case hy3 =>
  intro V aF
  try dsimp only at aF
  go_simp
  try with_reducible rfl
 try simp only[Act.put,List.setIfInBounds_toArray,List.set_cons_zero,List.set_cons_succ]
 refine ay (i:=3) (v:=?v4) rfl (by kernel_rfl) (by kernel_rfl) (by kernel_rfl) (by kernel_rfl) (fun _ _ _ h=>h) rfl ?hy4 bB ?_
 case hy4 =>
  intro V aF
  try dsimp only at aF
  go_simp
  try with_reducible rfl
 try simp only[Act.put,List.setIfInBounds_toArray,List.set_cons_zero,List.set_cons_succ]
 refine ay (i:=4) (v:=?v5) rfl (by kernel_rfl) (by kernel_rfl) (by kernel_rfl) (by kernel_rfl) (fun _ _ _ h=>h) rfl ?Qx bB ?_
 case Qx =>
  intro V aF
  try dsimp only at aF
  go_simp
  try with_reducible rfl
 try simp only[Act.put,List.setIfInBounds_toArray,List.set_cons_zero,List.set_cons_succ]
 refine ay (i:=5) (v:=?v6) rfl (by kernel_rfl) (by kernel_rfl) (by kernel_rfl) (by kernel_rfl) (fun _ _ _ h=>h) rfl ?Ih bB ?_
 case Ih =>
  intro V aF
  try dsimp only at aF
  go_simp
  try with_reducible rfl
 try simp only[Act.put,List.setIfInBounds_toArray,List.set_cons_zero,List.set_cons_succ]
 refine bf (i:=6) (by kernel_rfl) rfl (fun K hK=>?_)
 go_simp
 refine hK _ _ (⟨q5 _,q0 _,q1 _⟩) ?_;clear hK K
 try simp only[Act.put,List.setIfInBounds_toArray,List.set_cons_zero,List.set_cons_succ]
 refine bf (i:=7) (by kernel_rfl) rfl (fun K hK=>?_);refine KI (by rfl) _ _ 82 123 (.agg #[.slice none 0 0,.int .i64 0]) 2 32 (by rfl) Tryz.underlying82 Tryz.QJ rfl (by decide) (HT.out.drew.alloc _) (by rfl) w1.heap.size [.slice ra ln r.c,.int .i64 d] rfl (by rfl) (fun j u hj=>UM w1.drew _ _ j u hj) (by simp[Value.oneCell']) (by omega) (by simp only[maxLen];omega) ?_;intro b' c' w5 h6 _;obtain⟨k1,k2,k3,k4,k5⟩:=UK.out _ _ _ h6;have K5:=zH k5;clear k5 h6;have HS2:(fun V:World=>V.cell? ⟨p,5,none⟩=some (.slice (M.cls.a.map fun b=>⟨b,0,none⟩) n M.cls.c)∧V.cell? ⟨b0,0,none⟩=some (.slice ra ln r.c)∧V.cell? ⟨b0,1,none⟩=some (.int .i64 d)) _:=⟨k1,k3,k4⟩;refine hK _ _ HS2 ?_;clear hK K
 try simp only[Act.put,List.setIfInBounds_toArray,List.set_cons_zero,List.set_cons_succ]
 refine agy (by kernel_rfl) rfl (fun K hK=>?_)
 go_simp
 refine hK _ _ ?_;clear hK K
 try simp only[Act.put,List.setIfInBounds_toArray,List.set_cons_zero,List.set_cons_succ]
 refine Ja (i:=9) (by kernel_rfl) rfl (fun K hK=>?_)
 go_simp
 refine hK _ _ ?_;clear hK K
 try simp only[Act.put,List.setIfInBounds_toArray,List.set_cons_zero,List.set_cons_succ]
 refine UE (i:=10) (by kernel_rfl) rfl (by kernel_rfl) (fun K hK=>?_)
 go_simp
 refine hK _ _ ?_;clear hK K;clear c5 g0 g1 WU g1f q5 q0 q1 k1 k2 k3 k4 H1;have h2:=K5.out;clear K5;revert h2;generalize w5.setCell ⟨p,5,none⟩ (.slice (some ⟨b',0,none⟩) (n+1) c')=w2;intro h2;clear HS2 bB UK HT;obtain⟨M2,hM2⟩:∃ M2,M.DZ ⟨some b',c',M.cls.xs++[(r,d)]⟩=M2:=⟨_,rfl⟩;rw[hM2] at h2;have uf:=zH hM2;obtain⟨g0,WU⟩:=h2.cu 0;simp only[List.getElem?_cons_zero] at g0;have H2:=zH h2;clear h2 hM2 WU
 have FB:Hid (M2.sv={ M.sv with cls:=M.sv.cls++[(r.xs,d)] }):=zH (by
  rw[←uf.out];show ({ M.sv with cls:=(M.cls.xs++[(r,d)]).map fun x=>(x.1.xs,x.2) }:SM)={ M.sv with cls:=(M.cls.xs.map fun x=>(x.1.xs,x.2))++[(r.xs,d)] };rw[List.map_append]
  rfl)
 have UN:Hid (M2.cls.xs=M.cls.xs++[(r,d)]):=zH (by rw[←uf.out]);have HW2:Hid (M2.aj=M.aj):=zH (by rw[←uf.out]);clear uf
 by_cases hl1:1<ln
 ·have e1:decide ((1:Int)<(ln:Int))=true:=by simp;omega
  have agB:Hid (M2.aj.xs.length=M.aj.xs.length):=zH (by rw[HW2.out]);have agC:Hid (∀ x∈M2.aj.xs,x.xs.length≤1000000+0):=zH (by rw[HW2.out];exact HR.out);have hi2:M2.cls.xs[n]?=some (r,d):=by rw[UN.out,List.getElem?_append_right (by rw[HNN.out];exact Nat.le_refl _),HNN.out,Nat.sub_self];rfl
  obtain⟨b,hb⟩:=(H2.out.wY hi2).1 (by rw[fP.out];omega);obtain rfl:ra=some ⟨b,0,none⟩:=by rw[←KJ.out,hb];rfl
  have HI2:=zH hi2;have HB:=zH hb;have l0:(0:Int)<(ln:Int):=by omega
  have l00:0<ln:=by omega
  have l1:(1:Int)<(ln:Int):=by omega
  have HY:∀ j,j<ln→gn r.xs j<M.aj.xs.length:=fun j hj=>Ig.out _ (aU _ _ (by rw[fP.out];exact hj));have HYH:=zH HY;clear hi2 hb HY;obtain⟨y2,hy2⟩:∃ y,gn r.xs 0=y:=⟨_,rfl⟩;obtain⟨e4,_⟩:=H2.out.iE HI2.out HB.out (j:=0) (x:=y2) (by rw[aM r.xs 0 (by rw[fP.out];omega),hy2]);have agD:y2<M2.aj.xs.length:=by rw[agB.out,←hy2];exact HYH.out 0 (by omega)
  obtain⟨QK,hrw2⟩:∃ x,M2.aj.xs[y2]?=some x:=⟨M2.aj.xs[y2],by simp[agD]⟩;obtain⟨UO,hbw2⟩:=H2.out.qL (by omega);obtain⟨o2,_⟩:=H2.out.kX hbw2 hrw2;have c2:=H2.out.iD;obtain⟨nw2,aa2⟩:∃ n,M2.aj.xs.length=n:=⟨_,rfl⟩;obtain⟨nr2,WV⟩:∃ n,QK.xs.length=n:=⟨_,rfl⟩;have MI:nr2≤1000000+0:=by rw[←WV];exact agC.out _ (List.mem_of_getElem? hrw2)
  rw[hbw2,aa2] at c2;rw[WV] at o2;rw[aa2] at agD;simp only[Option.map_some] at c2;have hrow2:=H2.out.iM hrw2;unfold Fl.hp at hrow2;rw[WV] at hrow2;have acM:=zH hrow2;have aa4:=zH hrw2;have akq:=zH hbw2;have akr:=zH aa2;have agE:=zH WV;have agF:=zH hy2;have y2a:(0:Int)≤(y2:Int):=by omega
  have y2b:(y2:Int)<(nw2:Int):=by omega
  have q20:∀ o,(w2.alloc o).cell? ⟨p,6,none⟩=some (.slice (some ⟨UO,0,none⟩) nw2 M2.aj.c):=fun o=>(World.cell?_alloc_some _ _ _ (by rw[c2];rfl)).trans c2;have q21:∀ o,(w2.alloc o).cell? ⟨b0,0,none⟩=some (.slice (some ⟨b,0,none⟩) ln r.c):=fun o=>(World.cell?_alloc_some _ _ _ (by rw[g0];rfl)).trans g0;have q22:∀ o,(w2.alloc o).cell? ⟨b,0,none⟩=some (.int .u32 y2):=fun o=>(World.cell?_alloc_some _ _ _ (by rw[e4];rfl)).trans e4;have q23:∀ o,(w2.alloc o).cell? ⟨UO,y2,none⟩=some (.slice (QK.a.map fun b=>⟨b,0,none⟩) nr2 QK.c):=fun o=>(World.cell?_alloc_some _ _ _ (by rw[o2];rfl)).trans o2
  have HP2:=zH (show ∀ (b' c':Nat) (w5:World),St B w0 w5 (star (sl (some b') (nr2+1) c' 3 1 (QK.xs.map vN++[vN n])) (dI p M2 y2 (star (pt b0 123 [.slice (some ⟨b,0,none⟩) ln r.c,.int .i64 d]) F))) →
    (w5.cell? ⟨p,6,none⟩=some (.slice (some ⟨UO,0,none⟩) nw2 M2.aj.c)∧w5.cell? ⟨b0,0,none⟩=some (.slice (some ⟨b,0,none⟩) ln r.c)∧w5.cell? ⟨b,0,none⟩=some (.int .u32 y2)∧w5.cell? ⟨UO,y2,none⟩=some (.slice (QK.a.map fun b=>⟨b,0,none⟩) nr2 QK.c))∧w5.frozen? ⟨UO,y2,none⟩=false∧At B w0 (w5.setCell ⟨UO,y2,none⟩ (.slice (some ⟨b',0,none⟩) (nr2+1) c')) p (M2.aY ⟨M2.aj.a,M2.aj.c,M2.aj.xs.set y2 ⟨some b',c',QK.xs++[n]⟩⟩) (star (pt b0 123 [.slice (some ⟨b,0,none⟩) ln r.c,.int .i64 d]) F) from fun b' c' w5 h6=>by
   obtain⟨k1,⟨k2,k3⟩,k4⟩:=H2.out.Fy aa4.out akq.out agE.out akr.out _ _ _ h6;have k5:=At.pU aa4.out h6 HI2.out HB.out (j:=0) (x:=y2) (by rw[aM r.xs 0 (by rw[fP.out];omega),agF.out]);have k6:=At.Jc aa4.out h6 0;simp only[List.getElem?_cons_zero] at k6
   exact⟨⟨k1,k6,k5,k2⟩,k3,k4⟩)
  clear hrow2 hrw2 hbw2 WV aa2 hy2
  go_wp2
  refine dn 22 (fun V:World=>V.cell? ⟨p,6,none⟩=some (.slice (some ⟨UO,0,none⟩) nw2 M2.aj.c)∧V.cell? ⟨b0,0,none⟩=some (.slice (some ⟨b,0,none⟩) ln r.c)∧V.cell? ⟨b,0,none⟩=some (.int .u32 y2)∧V.cell? ⟨UO,y2,none⟩=some (.slice (QK.a.map fun b=>⟨b,0,none⟩) nr2 QK.c)) (by kernel_rfl) ?_;have bB:(fun V:World=>V.cell? ⟨p,6,none⟩=some (.slice (some ⟨UO,0,none⟩) nw2 M2.aj.c)∧V.cell? ⟨b0,0,none⟩=some (.slice (some ⟨b,0,none⟩) ln r.c)∧V.cell? ⟨b,0,none⟩=some (.int .u32 y2)∧V.cell? ⟨UO,y2,none⟩=some (.slice (QK.a.map fun b=>⟨b,0,none⟩) nr2 QK.c)) w2.drew:=⟨c2,g0,e4,o2⟩;refine ay (i:=0) (v:=?v7) rfl (by kernel_rfl) (by kernel_rfl) (by kernel_rfl) (by kernel_rfl) (fun _ _ _ h=>h) rfl ?UL bB ?_
  case UL =>
   intro V aF
   try dsimp only at aF
   go_simp
   try with_reducible rfl
  try simp only[Act.put,List.setIfInBounds_toArray,List.set_cons_zero,List.set_cons_succ]
  refine ay (i:=1) (v:=?v8) rfl (by kernel_rfl) (by kernel_rfl) (by kernel_rfl) (by kernel_rfl) (fun _ _ _ h=>h) rfl ?WT bB ?_
  case WT =>
   intro V aF
   try dsimp only at aF
   go_simp
   try with_reducible rfl
  try simp only[Act.put,List.setIfInBounds_toArray,List.set_cons_zero,List.set_cons_succ]
  refine ay (i:=2) (v:=?v9) rfl (by kernel_rfl) (by kernel_rfl) (by kernel_rfl) (by kernel_rfl) (fun _ _ _ h=>h) rfl ?hy9 bB ?_
  case hy9 =>
   intro V aF
   try dsimp only at aF
   go_simp
   try with_reducible rfl
  try simp only[Act.put,List.setIfInBounds_toArray,List.set_cons_zero,List.set_cons_succ]
  refine ay (i:=3) (v:=?v10) rfl (by kernel_rfl) (by kernel_rfl) (by kernel_rfl) (by kernel_rfl) (fun _ _ _ h=>h) rfl ?KG bB ?_
  case KG =>
   intro V aF
   try dsimp only at aF
   go_simp
   try with_reducible rfl
  try simp only[Act.put,List.setIfInBounds_toArray,List.set_cons_zero,List.set_cons_succ]
  refine ay (i:=4) (v:=?v11) rfl (by kernel_rfl) (by kernel_rfl) (by kernel_rfl) (by kernel_rfl) (fun _ _ _ h=>h) rfl ?KH bB ?_
  case KH =>
   intro V aF
   try dsimp only at aF
   go_simp
   try with_reducible rfl
  try simp only[Act.put,List.setIfInBounds_toArray,List.set_cons_zero,List.set_cons_succ]
  refine ay (i:=5) (v:=?v12) rfl (by kernel_rfl) (by kernel_rfl) (by kernel_rfl) (by kernel_rfl) (fun _ _ _ h=>h) rfl ?Qy bB ?_
  case Qy =>
   intro V aF
   try dsimp only at aF
   go_simp
   try with_reducible rfl
  try simp only[Act.put,List.setIfInBounds_toArray,List.set_cons_zero,List.set_cons_succ]
  refine ay (i:=6) (v:=?v13) rfl (by kernel_rfl) (by kernel_rfl) (by kernel_rfl) (by kernel_rfl) (fun _ _ _ h=>h) rfl ?Qz bB ?_
  case Qz =>
   intro V aF
   try dsimp only at aF
   go_simp
   try with_reducible rfl
  try simp only[Act.put,List.setIfInBounds_toArray,List.set_cons_zero,List.set_cons_succ]
  refine ay (i:=7) (v:=?v14) rfl (by kernel_rfl) (by kernel_rfl) (by kernel_rfl) (by kernel_rfl) (fun _ _ _ h=>h) rfl ?QA bB ?_
  case QA =>
   intro V aF
   try dsimp only at aF
   go_simp
   try with_reducible rfl
  try simp only[Act.put,List.setIfInBounds_toArray,List.set_cons_zero,List.set_cons_succ]
  refine ay (i:=8) (v:=?v15) rfl (by kernel_rfl) (by kernel_rfl) (by kernel_rfl) (by kernel_rfl) (fun _ _ _ h=>h) rfl ?QB bB ?_
  case QB =>
   intro V aF
   try dsimp only at aF
   go_simp
   try with_reducible rfl
  try simp only[Act.put,List.setIfInBounds_toArray,List.set_cons_zero,List.set_cons_succ]
  refine ay (i:=9) (v:=?v16) rfl (by kernel_rfl) (by kernel_rfl) (by kernel_rfl) (by kernel_rfl) (fun _ _ _ h=>h) rfl ?QC bB ?_
  case QC =>
   intro V aF
   try dsimp only at aF
   go_simp
   try with_reducible rfl
  try simp only[Act.put,List.setIfInBounds_toArray,List.set_cons_zero,List.set_cons_succ]
  refine ay (i:=10) (v:=?v17) rfl (by kernel_rfl) (by kernel_rfl) (by kernel_rfl) (by kernel_rfl) (fun _ _ _ h=>h) rfl ?QD bB ?_
  case QD =>
   intro V aF
   try dsimp only at aF
   go_simp
   try with_reducible rfl
  try simp only[Act.put,List.setIfInBounds_toArray,List.set_cons_zero,List.set_cons_succ]
  refine ay (i:=11) (v:=?v18) rfl (by kernel_rfl) (by kernel_rfl) (by kernel_rfl) (by kernel_rfl) (fun _ _ _ h=>h) rfl ?QE bB ?_
  case QE =>
   intro V aF
   try dsimp only at aF
   go_simp
   try with_reducible rfl
  try simp only[Act.put,List.setIfInBounds_toArray,List.set_cons_zero,List.set_cons_succ]
  refine ay (i:=12) (v:=?v19) rfl (by kernel_rfl) (by kernel_rfl) (by kernel_rfl) (by kernel_rfl) (fun _ _ _ h=>h) rfl ?QF bB ?_
  case QF =>
   intro V aF
   try dsimp only at aF
   go_simp
   try with_reducible rfl
  try simp only[Act.put,List.setIfInBounds_toArray,List.set_cons_zero,List.set_cons_succ]
  refine ay (i:=13) (v:=?v20) rfl (by kernel_rfl) (by kernel_rfl) (by kernel_rfl) (by kernel_rfl) (fun _ _ _ h=>h) rfl ?QG bB ?_
  case QG =>
   intro V aF
   try dsimp only at aF
   go_simp
   try with_reducible rfl
  try simp only[Act.put,List.setIfInBounds_toArray,List.set_cons_zero,List.set_cons_succ]
  refine ay (i:=14) (v:=?v21) rfl (by kernel_rfl) (by kernel_rfl) (by kernel_rfl) (by kernel_rfl) (fun _ _ _ h=>h) rfl ?QH bB ?_
  case QH =>
   intro V aF
   try dsimp only at aF
   go_simp
   try with_reducible rfl
  try simp only[Act.put,List.setIfInBounds_toArray,List.set_cons_zero,List.set_cons_succ]
  refine ay (i:=15) (v:=?v22) rfl (by kernel_rfl) (by kernel_rfl) (by kernel_rfl) (by kernel_rfl) (fun _ _ _ h=>h) rfl ?QI bB ?_
  case QI =>
   intro V aF
   try dsimp only at aF
   go_simp
   try with_reducible rfl
  try simp only[Act.put,List.setIfInBounds_toArray,List.set_cons_zero,List.set_cons_succ]
  refine ay (i:=16) (v:=?v23) rfl (by kernel_rfl) (by kernel_rfl) (by kernel_rfl) (by kernel_rfl) (fun _ _ _ h=>h) rfl ?adW bB ?_
  case adW =>
   intro V aF
   try dsimp only at aF
   go_simp
   try with_reducible rfl
  try simp only[Act.put,List.setIfInBounds_toArray,List.set_cons_zero,List.set_cons_succ]
  refine ay (i:=17) (v:=?v24) rfl (by kernel_rfl) (by kernel_rfl) (by kernel_rfl) (by kernel_rfl) (fun _ _ _ h=>h) rfl ?hy24 bB ?_
  case hy24 =>
   intro V aF
   try dsimp only at aF
   go_simp
   try with_reducible rfl
  try simp only[Act.put,List.setIfInBounds_toArray,List.set_cons_zero,List.set_cons_succ]
  refine ay (i:=18) (v:=?v25) rfl (by kernel_rfl) (by kernel_rfl) (by kernel_rfl) (by kernel_rfl) (fun _ _ _ h=>h) rfl ?hy25 bB ?_
  case hy25 =>
   intro V aF
   try dsimp only at aF
   go_simp
   try with_reducible rfl
  try simp only[Act.put,List.setIfInBounds_toArray,List.set_cons_zero,List.set_cons_succ]
  refine bf (i:=19) (by kernel_rfl) rfl (fun K hK=>?_)
  go_simp
  refine hK _ _ (⟨q20 _,q21 _,q22 _,q23 _⟩) ?_;clear hK K
  try simp only[Act.put,List.setIfInBounds_toArray,List.set_cons_zero,List.set_cons_succ]
  refine bf (i:=20) (by kernel_rfl) rfl (fun K hK=>?_);refine bN (by rfl) _ _ 27 3 (.int .i64 0) 8 (by rfl) Tryz.underlying27 Tryz.bW rfl (acM.out.drew.alloc _) (by rfl) w2.heap.size (.int .i64 n) (by rfl) (fJ w2.drew _ _) rfl (by omega) (by simp only[maxLen];omega) ?_;intro b2' c2' v2 h6 _;obtain⟨k1,k2,k3⟩:=HP2.out _ _ _ h6;have K2:=zH k3;clear k3 h6;have HS2:(fun V:World=>V.cell? ⟨p,6,none⟩=some (.slice (some ⟨UO,0,none⟩) nw2 M2.aj.c)∧V.cell? ⟨b0,0,none⟩=some (.slice (some ⟨b,0,none⟩) ln r.c)∧V.cell? ⟨b,0,none⟩=some (.int .u32 y2)∧V.cell? ⟨UO,y2,none⟩=some (.slice (QK.a.map fun b=>⟨b,0,none⟩) nr2 QK.c)) _:=k1;refine hK _ _ HS2 ?_;clear hK K
  try simp only[Act.put,List.setIfInBounds_toArray,List.set_cons_zero,List.set_cons_succ]
  refine ay (i:=21) (v:=?v26) rfl (by kernel_rfl) (by kernel_rfl) (by kernel_rfl) (by kernel_rfl) (fun _ _ _ h=>h) rfl ?adX HS2 ?_
  case adX =>
   intro V aF
   try dsimp only at aF
   go_simp
   try with_reducible rfl
  try simp only[Act.put,List.setIfInBounds_toArray,List.set_cons_zero,List.set_cons_succ]
  refine iy (by kernel_rfl) rfl (by kernel_rfl) (fun K hK=>?_)
  go_simp
  refine hK _ _ ?_;clear hK K;clear bB HS2 k1 k2 q20 q21 q22 q23 c2 g0 e4 o2 HP2 acM;have h3:=K2.out;clear K2;revert h3;generalize v2.setCell ⟨UO,y2,none⟩ (.slice (some ⟨b2',0,none⟩) (nr2+1) c2')=w3;intro h3;obtain⟨M3,zJ⟩:∃ N,M2.aY ⟨M2.aj.a,M2.aj.c,M2.aj.xs.set y2 ⟨some b2',c2',QK.xs++[n]⟩⟩=N:=⟨_,rfl⟩;rw[zJ] at h3;have HI3:Hid (M3.cls.xs[n]?=some (r,d)):=zH (by rw[←zJ];exact HI2.out);have HC3:Hid (M3.cls.xs=M.cls.xs++[(r,d)]):=zH (by rw[←zJ];exact UN.out);have agG:Hid (M3.aj.xs.length=M.aj.xs.length):=zH (by rw[←zJ];show (M2.aj.xs.set _ _).length=_;rw[List.length_set];exact agB.out);have agH:Hid (∀ x∈M3.aj.xs,x.xs.length≤1000000+1):=zH (by rw[←zJ];intro x hx;rcases List.mem_or_eq_of_mem_set hx with hx | rfl;(have:=agC.out x hx;omega);(show (QK.xs++[n]).length≤_);rw[List.length_append,agE.out];simp;omega)
  have MJ:Hid (M3.sv=M2.sv.watch y2 n):=zH (by rw[←zJ];exact MH aa4.out);obtain⟨g0,WU⟩:=h3.cu 0;simp only[List.getElem?_cons_zero] at g0;have H3:=zH h3;clear h3 zJ WU;obtain⟨y3,hy3⟩:∃ y,gn r.xs 1=y:=⟨_,rfl⟩;obtain⟨e5,_⟩:=H3.out.iE HI3.out HB.out (j:=1) (x:=y3) (by rw[aM r.xs 1 (by rw[fP.out];omega),hy3]);have agI:y3<M3.aj.xs.length:=by rw[agG.out,←hy3];exact HYH.out 1 (by omega)
  obtain⟨QL,hrw3⟩:∃ x,M3.aj.xs[y3]?=some x:=⟨M3.aj.xs[y3],by simp[agI]⟩;obtain⟨UQ,aa5⟩:=H3.out.qL (by omega);obtain⟨o3,_⟩:=H3.out.kX aa5 hrw3;have c3:=H3.out.iD;obtain⟨nw3,aa6⟩:∃ n,M3.aj.xs.length=n:=⟨_,rfl⟩;obtain⟨nr3,WW⟩:∃ n,QL.xs.length=n:=⟨_,rfl⟩;have hnb3:nr3≤1000000+1:=by rw[←WW];exact agH.out _ (List.mem_of_getElem? hrw3)
  rw[aa5,aa6] at c3;rw[WW] at o3;rw[aa6] at agI;simp only[Option.map_some] at c3;have hrow3:=H3.out.iM hrw3;unfold Fl.hp at hrow3;rw[WW] at hrow3;have acN:=zH hrow3;have aa8:=zH hrw3;have aks:=zH aa5;have akt:=zH aa6;have agJ:=zH WW;have agK:=zH hy3;have y3a:(0:Int)≤(y3:Int):=by omega
  have y3b:(y3:Int)<(nw3:Int):=by omega
  have q30:∀ o,(w3.alloc o).cell? ⟨p,6,none⟩=some (.slice (some ⟨UQ,0,none⟩) nw3 M3.aj.c):=fun o=>(World.cell?_alloc_some _ _ _ (by rw[c3];rfl)).trans c3;have q31:∀ o,(w3.alloc o).cell? ⟨b0,0,none⟩=some (.slice (some ⟨b,0,none⟩) ln r.c):=fun o=>(World.cell?_alloc_some _ _ _ (by rw[g0];rfl)).trans g0;have q32:∀ o,(w3.alloc o).cell? ⟨b,1,none⟩=some (.int .u32 y3):=fun o=>(World.cell?_alloc_some _ _ _ (by rw[e5];rfl)).trans e5;have q33:∀ o,(w3.alloc o).cell? ⟨UQ,y3,none⟩=some (.slice (QL.a.map fun b=>⟨b,0,none⟩) nr3 QL.c):=fun o=>(World.cell?_alloc_some _ _ _ (by rw[o3];rfl)).trans o3
  have HP3:=zH (show ∀ (b' c':Nat) (w5:World),St B w0 w5 (star (sl (some b') (nr3+1) c' 3 1 (QL.xs.map vN++[vN n])) (dI p M3 y3 (star (pt b0 123 [.slice (some ⟨b,0,none⟩) ln r.c,.int .i64 d]) F))) →
    (w5.cell? ⟨p,6,none⟩=some (.slice (some ⟨UQ,0,none⟩) nw3 M3.aj.c)∧w5.cell? ⟨b0,0,none⟩=some (.slice (some ⟨b,0,none⟩) ln r.c)∧w5.cell? ⟨b,1,none⟩=some (.int .u32 y3)∧w5.cell? ⟨UQ,y3,none⟩=some (.slice (QL.a.map fun b=>⟨b,0,none⟩) nr3 QL.c))∧w5.frozen? ⟨UQ,y3,none⟩=false∧At B w0 (w5.setCell ⟨UQ,y3,none⟩ (.slice (some ⟨b',0,none⟩) (nr3+1) c')) p (M3.aY ⟨M3.aj.a,M3.aj.c,M3.aj.xs.set y3 ⟨some b',c',QL.xs++[n]⟩⟩) (star (pt b0 123 [.slice (some ⟨b,0,none⟩) ln r.c,.int .i64 d]) F) from fun b' c' w5 h6=>by
   obtain⟨k1,⟨k2,k3⟩,k4⟩:=H3.out.Fy aa8.out aks.out agJ.out akt.out _ _ _ h6;have k5:=At.pU aa8.out h6 HI3.out HB.out (j:=1) (x:=y3) (by rw[aM r.xs 1 (by rw[fP.out];omega),agK.out]);have k6:=At.Jc aa8.out h6 0;simp only[List.getElem?_cons_zero] at k6
   exact⟨⟨k1,k6,k5,k2⟩,k3,k4⟩)
  clear hrow3 hrw3 aa5 WW aa6 hy3
  go_wp2
  refine dn 22 (fun V:World=>V.cell? ⟨p,6,none⟩=some (.slice (some ⟨UQ,0,none⟩) nw3 M3.aj.c)∧V.cell? ⟨b0,0,none⟩=some (.slice (some ⟨b,0,none⟩) ln r.c)∧V.cell? ⟨b,1,none⟩=some (.int .u32 y3)∧V.cell? ⟨UQ,y3,none⟩=some (.slice (QL.a.map fun b=>⟨b,0,none⟩) nr3 QL.c)) (by kernel_rfl) ?_;have bB:(fun V:World=>V.cell? ⟨p,6,none⟩=some (.slice (some ⟨UQ,0,none⟩) nw3 M3.aj.c)∧V.cell? ⟨b0,0,none⟩=some (.slice (some ⟨b,0,none⟩) ln r.c)∧V.cell? ⟨b,1,none⟩=some (.int .u32 y3)∧V.cell? ⟨UQ,y3,none⟩=some (.slice (QL.a.map fun b=>⟨b,0,none⟩) nr3 QL.c)) w3.drew:=⟨c3,g0,e5,o3⟩;refine ay (i:=0) (v:=?v27) rfl (by kernel_rfl) (by kernel_rfl) (by kernel_rfl) (by kernel_rfl) (fun _ _ _ h=>h) rfl ?hy27 bB ?_
  case hy27 =>
   intro V aF
   try dsimp only at aF
   go_simp
   try with_reducible rfl
  try simp only[Act.put,List.setIfInBounds_toArray,List.set_cons_zero,List.set_cons_succ]
  refine ay (i:=1) (v:=?v28) rfl (by kernel_rfl) (by kernel_rfl) (by kernel_rfl) (by kernel_rfl) (fun _ _ _ h=>h) rfl ?hy28 bB ?_
  case hy28 =>
   intro V aF
   try dsimp only at aF
   go_simp
   try with_reducible rfl
  try simp only[Act.put,List.setIfInBounds_toArray,List.set_cons_zero,List.set_cons_succ]
  refine ay (i:=2) (v:=?v29) rfl (by kernel_rfl) (by kernel_rfl) (by kernel_rfl) (by kernel_rfl) (fun _ _ _ h=>h) rfl ?hy29 bB ?_
  case hy29 =>
   intro V aF
   try dsimp only at aF
   go_simp
   try with_reducible rfl
  try simp only[Act.put,List.setIfInBounds_toArray,List.set_cons_zero,List.set_cons_succ]
  refine ay (i:=3) (v:=?v30) rfl (by kernel_rfl) (by kernel_rfl) (by kernel_rfl) (by kernel_rfl) (fun _ _ _ h=>h) rfl ?adY bB ?_
  case adY =>
   intro V aF
   try dsimp only at aF
   go_simp
   try with_reducible rfl
  try simp only[Act.put,List.setIfInBounds_toArray,List.set_cons_zero,List.set_cons_succ]
  refine ay (i:=4) (v:=?v31) rfl (by kernel_rfl) (by kernel_rfl) (by kernel_rfl) (by kernel_rfl) (fun _ _ _ h=>h) rfl ?hy31 bB ?_
  case hy31 =>
   intro V aF
   try dsimp only at aF
   go_simp
   try with_reducible rfl
  try simp only[Act.put,List.setIfInBounds_toArray,List.set_cons_zero,List.set_cons_succ]
  refine ay (i:=5) (v:=?v32) rfl (by kernel_rfl) (by kernel_rfl) (by kernel_rfl) (by kernel_rfl) (fun _ _ _ h=>h) rfl ?hy32 bB ?_
  case hy32 =>
   intro V aF
   try dsimp only at aF
   go_simp
   try with_reducible rfl
  try simp only[Act.put,List.setIfInBounds_toArray,List.set_cons_zero,List.set_cons_succ]
  refine ay (i:=6) (v:=?v33) rfl (by kernel_rfl) (by kernel_rfl) (by kernel_rfl) (by kernel_rfl) (fun _ _ _ h=>h) rfl ?adZ bB ?_
  case adZ =>
   intro V aF
   try dsimp only at aF
   go_simp
   try with_reducible rfl
  try simp only[Act.put,List.setIfInBounds_toArray,List.set_cons_zero,List.set_cons_succ]
  refine ay (i:=7) (v:=?v34) rfl (by kernel_rfl) (by kernel_rfl) (by kernel_rfl) (by kernel_rfl) (fun _ _ _ h=>h) rfl ?hy34 bB ?_
  case hy34 =>
   intro V aF
   try dsimp only at aF
   go_simp
   try with_reducible rfl
  try simp only[Act.put,List.setIfInBounds_toArray,List.set_cons_zero,List.set_cons_succ]
  refine ay (i:=8) (v:=?v35) rfl (by kernel_rfl) (by kernel_rfl) (by kernel_rfl) (by kernel_rfl) (fun _ _ _ h=>h) rfl ?ad1 bB ?_
  case ad1 =>
   intro V aF
   try dsimp only at aF
   go_simp
   try with_reducible rfl
  try simp only[Act.put,List.setIfInBounds_toArray,List.set_cons_zero,List.set_cons_succ]
  refine ay (i:=9) (v:=?v36) rfl (by kernel_rfl) (by kernel_rfl) (by kernel_rfl) (by kernel_rfl) (fun _ _ _ h=>h) rfl ?ad2 bB ?_
  case ad2 =>
   intro V aF
   try dsimp only at aF
   go_simp
   try with_reducible rfl
  try simp only[Act.put,List.setIfInBounds_toArray,List.set_cons_zero,List.set_cons_succ]
  refine ay (i:=10) (v:=?v37) rfl (by kernel_rfl) (by kernel_rfl) (by kernel_rfl) (by kernel_rfl) (fun _ _ _ h=>h) rfl ?aku bB ?_
  case aku =>
   intro V aF
   try dsimp only at aF
   go_simp
   try with_reducible rfl
  try simp only[Act.put,List.setIfInBounds_toArray,List.set_cons_zero,List.set_cons_succ]
  refine ay (i:=11) (v:=?v38) rfl (by kernel_rfl) (by kernel_rfl) (by kernel_rfl) (by kernel_rfl) (fun _ _ _ h=>h) rfl ?hy38 bB ?_
  case hy38 =>
   intro V aF
   try dsimp only at aF
   go_simp
   try with_reducible rfl
  try simp only[Act.put,List.setIfInBounds_toArray,List.set_cons_zero,List.set_cons_succ]
  refine ay (i:=12) (v:=?v39) rfl (by kernel_rfl) (by kernel_rfl) (by kernel_rfl) (by kernel_rfl) (fun _ _ _ h=>h) rfl ?hy39 bB ?_
  case hy39 =>
   intro V aF
   try dsimp only at aF
   go_simp
   try with_reducible rfl
  try simp only[Act.put,List.setIfInBounds_toArray,List.set_cons_zero,List.set_cons_succ]
  refine ay (i:=13) (v:=?v40) rfl (by kernel_rfl) (by kernel_rfl) (by kernel_rfl) (by kernel_rfl) (fun _ _ _ h=>h) rfl ?akv bB ?_
  case akv =>
   intro V aF
   try dsimp only at aF
   go_simp
   try with_reducible rfl
  try simp only[Act.put,List.setIfInBounds_toArray,List.set_cons_zero,List.set_cons_succ]
  refine ay (i:=14) (v:=?v41) rfl (by kernel_rfl) (by kernel_rfl) (by kernel_rfl) (by kernel_rfl) (fun _ _ _ h=>h) rfl ?akw bB ?_
  case akw =>
   intro V aF
   try dsimp only at aF
   go_simp
   try with_reducible rfl
  try simp only[Act.put,List.setIfInBounds_toArray,List.set_cons_zero,List.set_cons_succ]
  refine ay (i:=15) (v:=?v42) rfl (by kernel_rfl) (by kernel_rfl) (by kernel_rfl) (by kernel_rfl) (fun _ _ _ h=>h) rfl ?akx bB ?_
  case akx =>
   intro V aF
   try dsimp only at aF
   go_simp
   try with_reducible rfl
  try simp only[Act.put,List.setIfInBounds_toArray,List.set_cons_zero,List.set_cons_succ]
  refine ay (i:=16) (v:=?v43) rfl (by kernel_rfl) (by kernel_rfl) (by kernel_rfl) (by kernel_rfl) (fun _ _ _ h=>h) rfl ?aky bB ?_
  case aky =>
   intro V aF
   try dsimp only at aF
   go_simp
   try with_reducible rfl
  try simp only[Act.put,List.setIfInBounds_toArray,List.set_cons_zero,List.set_cons_succ]
  refine ay (i:=17) (v:=?v44) rfl (by kernel_rfl) (by kernel_rfl) (by kernel_rfl) (by kernel_rfl) (fun _ _ _ h=>h) rfl ?akz bB ?_
  case akz =>
   intro V aF
   try dsimp only at aF
   go_simp
   try with_reducible rfl
  try simp only[Act.put,List.setIfInBounds_toArray,List.set_cons_zero,List.set_cons_succ]
  refine ay (i:=18) (v:=?v45) rfl (by kernel_rfl) (by kernel_rfl) (by kernel_rfl) (by kernel_rfl) (fun _ _ _ h=>h) rfl ?akA bB ?_
  case akA =>
   intro V aF
   try dsimp only at aF
   go_simp
   try with_reducible rfl
  try simp only[Act.put,List.setIfInBounds_toArray,List.set_cons_zero,List.set_cons_succ]
  refine bf (i:=19) (by kernel_rfl) rfl (fun K hK=>?_)
  go_simp
  refine hK _ _ (⟨q30 _,q31 _,q32 _,q33 _⟩) ?_;clear hK K
  try simp only[Act.put,List.setIfInBounds_toArray,List.set_cons_zero,List.set_cons_succ]
  refine bf (i:=20) (by kernel_rfl) rfl (fun K hK=>?_);refine bN (by rfl) _ _ 27 3 (.int .i64 0) 8 (by rfl) Tryz.underlying27 Tryz.bW rfl (acN.out.drew.alloc _) (by rfl) w3.heap.size (.int .i64 n) (by rfl) (fJ w3.drew _ _) rfl (by omega) (by simp only[maxLen];omega) ?_;intro b3' c3' v3 h6 _;obtain⟨k1,k2,k3⟩:=HP3.out _ _ _ h6;have K3:=zH k3;clear k3 h6;have HS2:(fun V:World=>V.cell? ⟨p,6,none⟩=some (.slice (some ⟨UQ,0,none⟩) nw3 M3.aj.c)∧V.cell? ⟨b0,0,none⟩=some (.slice (some ⟨b,0,none⟩) ln r.c)∧V.cell? ⟨b,1,none⟩=some (.int .u32 y3)∧V.cell? ⟨UQ,y3,none⟩=some (.slice (QL.a.map fun b=>⟨b,0,none⟩) nr3 QL.c)) _:=k1;refine hK _ _ HS2 ?_;clear hK K
  try simp only[Act.put,List.setIfInBounds_toArray,List.set_cons_zero,List.set_cons_succ]
  refine ay (i:=21) (v:=?v46) rfl (by kernel_rfl) (by kernel_rfl) (by kernel_rfl) (by kernel_rfl) (fun _ _ _ h=>h) rfl ?akB HS2 ?_
  case akB =>
   intro V aF
   try dsimp only at aF
   go_simp
   try with_reducible rfl
  try simp only[Act.put,List.setIfInBounds_toArray,List.set_cons_zero,List.set_cons_succ]
  refine iy (by kernel_rfl) rfl (by kernel_rfl) (fun K hK=>?_)
  go_simp
  refine hK _ _ ?_;clear hK K;clear bB HS2 k1 k2 q30 q31 q32 q33 c3 g0 e5 o3 HP3 acN;have h4:=K3.out;clear K3;revert h4;generalize v3.setCell ⟨UQ,y3,none⟩ (.slice (some ⟨b3',0,none⟩) (nr3+1) c3')=w4;intro h4;obtain⟨M4,hM4⟩:∃ N,M3.aY ⟨M3.aj.a,M3.aj.c,M3.aj.xs.set y3 ⟨some b3',c3',QL.xs++[n]⟩⟩=N:=⟨_,rfl⟩;rw[hM4] at h4;have HI4:Hid (M4.cls.xs[n]?=some (r,d)):=zH (by rw[←hM4];exact HI3.out);have HC4:Hid (M4.cls.xs=M.cls.xs++[(r,d)]):=zH (by rw[←hM4];exact HC3.out);have HWL4:Hid (M4.aj.xs.length=M.aj.xs.length):=zH (by rw[←hM4];show (M3.aj.xs.set _ _).length=_;rw[List.length_set];exact agG.out);have HRB4:Hid (∀ x∈M4.aj.xs,x.xs.length≤1000000+2):=zH (by rw[←hM4];intro x hx;rcases List.mem_or_eq_of_mem_set hx with hx | rfl;(have:=agH.out x hx;omega);(show (QL.xs++[n]).length≤_);rw[List.length_append,agJ.out];simp;omega)
  have akC:Hid (M4.sv=M3.sv.watch y3 n):=zH (by rw[←hM4];exact MH aa8.out);obtain⟨g0,WU⟩:=h4.cu 0;simp only[List.getElem?_cons_zero] at g0;have H4:=zH h4;clear h4 hM4 WU
  go_wp2
  go_ret
  refine⟨by rw[HNN.out];rfl,M4,H4.out.iL,?_,HC4.out⟩;rw[akC.out,MJ.out,FB.out];unfold SM.attach;rw[fP.out,if_pos (by omega),agF.out,agK.out];show _=(({ M.sv with cls:=M.sv.cls++[(r.xs,d)] }:SM).watch y2 (M.cls.xs.map fun x=>(x.1.xs,x.2)).length).watch y3 (M.cls.xs.map fun x=>(x.1.xs,x.2)).length;rw[List.length_map,HNN.out]
 ·have e1:decide ((1:Int)<(ln:Int))=false:=by simp;omega
  go_wp2
  go_ret
  refine⟨by rw[HNN.out];rfl,M2,H2.out.iL,?_,UN.out⟩;rw[FB.out];unfold SM.attach;rw[fP.out,if_neg (by omega)]
end
end Go.Proofs.YthbbmdnfkkffjaaGreat

/-
  Parts of the proof, joined by program: RDer1, Der6, Der7.
-/
import Derived.Test.YthbbmdnfkkffjaaGreatZ45
import Derived.Test.YthbbmdnfkkffjaaGreatZ05
import Derived.Test.YthbbmdnfkkffjaaGreatZ40
import Derived.Test.YthbbmdnfkkffjaaGreatZ35
namespace Go.Proofs.YthbbmdnfkkffjaaGreat
open Go.RowKit Go.Proofs.PlaitSep Go.Proofs.PlaitPure
def foundC (c d:List Int) (j:Nat):Nat:=(piv (c.take j) d).length
def lastC (c d:List Int) (j:Nat):Int:=match (piv (c.take j) d).getLast? with
 | none=>0
 | some l=>l
theorem piv_snoc (c d:List Int) (x:Int):piv (c++[x]) d=if hasB d (-x) then piv c d++[x] else piv c d:=by
 unfold piv
 rw[List.filter_append]
 cases h:hasB d (-x) <;> simp[h]
theorem foundC_succ {c d:List Int} {j:Nat} (h:j<c.length):foundC c d (j+1)=if hasB d (-gi c j) then foundC c d j+1 else foundC c d j:=by
 unfold foundC
 rw[take_gi c j h,piv_snoc]
 split <;> simp
theorem lastC_succ {c d:List Int} {j:Nat} (h:j<c.length):lastC c d (j+1)=if hasB d (-gi c j) then gi c j else lastC c d j:=by
 unfold lastC
 rw[take_gi c j h,piv_snoc]
 by_cases hb:hasB d (-gi c j)=true
 ·rw[if_pos hb,if_pos hb,List.getLast?_concat]
 ·rw[if_neg hb,if_neg hb]
theorem without_succ {c:List Int} {x:Int} {j:Nat} (h:j<c.length):(c.take (j+1)).filter (fun y=>y != x)=if gi c j != x then (c.take j).filter (fun y=>y != x)++[gi c j] else (c.take j).filter (fun y=>y != x):=by
 rw[take_gi c j h,List.filter_append]
 cases hb:gi c j != x <;> simp[hb]
set_option maxRecDepth 100000 in
set_option maxHeartbeats 4000000 in
theorem rresolve_any (A:Option Addr) (n cA:Nat) (c:List Int) (A':Option Addr) (m cB:Nat) (d:List Int) (w:World) (hr:Rd w A n c) (hr':Rd w A' m d) (hc:IsSet c) (hd:IsSet d) (hn:n≤400000) (hm:m≤400000) :
  Calls Tryz.prog 78 #[.slice A n cA,.slice A' m cB] w (ClPost w (resF c d)):=by
 have HR:=Lib.hid hr
 have HR':=Lib.hid hr'
 have HC:=Lib.hid hc
 have HD:=Lib.hid hd
 have HLC:=Lib.hid hr.len
 have HLD:=Lib.hid hr'.len
 clear hr hr' hc hd
 go_enter Tryz.func78,Tryz.ntmps78
 go_wp2
 go_loop [6,7,8] (fun v6 v7 v8=>∃ j:Nat,j≤n∧v8=.int .i64 j∧(∃ q:Nat,q≤j∧v7=.int .i64 q∧Hid (foundC c d j=q))∧∃ x:Int,v6=.int .i64 x∧Hid (lastC c d j=x)) (fun _ _ v8=>n-(intOf v8).toNat)
 case atStart=>exact⟨0,Nat.zero_le _,rfl,⟨0,Nat.le_refl _,rfl,(rfl:foundC c d 0=0)⟩,0,rfl,(rfl:lastC c d 0=0)⟩
 case round =>
  obtain⟨j,hj,rfl,⟨q,hq,rfl,HQ⟩,x,rfl,HX⟩:=hrel
  by_cases hjn:j<n
  ·obtain⟨bd,od,hA,hcell⟩:=HR.out.cells (by omega)
   subst hA
   have d1:=hcell j hjn
   have hjc:j<c.length:=by rw[HLC.out];exact hjn
   obtain⟨l,hl⟩:∃ l,gi c j=l:=⟨_,rfl⟩
   rw[hl] at d1
   have hlok:okLit l=true:=by rw[←hl,gi_eq c j hjc];exact HC.out.lits _ (List.getElem_mem _)
   obtain⟨_,l1,l2⟩:=okLit_iff.1 hlok
   have hwr:IntKind.i64.wrap (-l)=-l:=IntWalk.i64_in _ (by omega)
   have hfs:=foundC_succ (c:=c) (d:=d) hjc
   have hls:=lastC_succ (c:=c) (d:=d) hjc
   rw[hl] at hfs hls
   have HFS:=Lib.hid hfs
   have HLS:=Lib.hid hls
   have j0:(0:Int)≤(j:Int):=by omega
   have j1:(j:Int)<(n:Int):=by omega
   clear hcell hjc hl hlok hfs hls
   go_wp2_with fail
   refine (has_any A' m cB d (-l) w HR'.out).mono ?_
   rintro e w' ⟨rfl,rfl⟩
   cases hb:hasB d (-l) with
   | true =>
    have HB:=Lib.hid hb
    clear hb
    go_wp2
    go_round
    case rel=>exact⟨j+1,by omega,by go_num,⟨q+1,by omega,by go_num,(by rw[HFS.out,HB.out,HQ.out];rfl:foundC c d (j+1)=q+1)⟩,l,rfl,(by rw[HLS.out,HB.out];rfl:lastC c d (j+1)=l)⟩
    case measure=>simp[intOf];omega
   | false =>
    have HB:=Lib.hid hb
    clear hb
    go_wp2
    go_round
    case rel=>exact⟨j+1,by omega,by go_num,⟨q,by omega,rfl,(by rw[HFS.out,HB.out];exact HQ.out:foundC c d (j+1)=q)⟩,x,rfl,(by rw[HLS.out,HB.out];exact HX.out:lastC c d (j+1)=x)⟩
    case measure=>simp[intOf];omega
  ·obtain rfl:j=n:=by omega
   have htk:c.take j=c:=List.take_of_length_le (by rw[HLC.out];exact Nat.le_refl _)
   have hpl:(piv c d).length=q:=by have:=HQ.out;unfold foundC at this;rwa [htk] at this
   have HPL:=Lib.hid hpl
   by_cases hq1:q=1
   ·subst hq1
    have hone:piv c d=[x]:=by
     match hp:piv c d,hpl with
     | [l],_ =>
      have:=HX.out
      unfold lastC at this
      rw[htk,hp] at this
      exact congrArg (fun y=>[y]) this
    obtain⟨s,hs1,hs2,hs3⟩:=resF_one HC.out HD.out hone
    have hxm:x∈c:=(List.mem_filter.1 (show x∈piv c d by rw[hone];simp)).1
    obtain⟨_,x1,x2⟩:=okLit_iff.1 (HC.out.lits x hxm)
    have hres:setF (resA c d x)=some s:=by have:=hs1;unfold resF at this;rwa [hone] at this
    have HS1:=Lib.hid hs1
    have HRES:=Lib.hid hres
    have hwr:IntKind.i64.wrap (-x)=-x:=IntWalk.i64_in _ (by omega)
    have HST0:=Lib.hid (show St w.heap.size w w (star (sli 3 none 0 []) emp) from⟨Below.refl _ _,Nat.le_refl _,(St.start w).sat.sl_nil _ _⟩)
    clear htk hpl hone hs1 hs2 hs3 hxm hres
    go_wp2
    go_loopw [9,10] (fun v9 v10 wr=>∃ (i:Nat) (xa:Option Nat) (xc t:Nat) (xs:List Int),i≤j∧t≤i∧v10=.int .i64 i∧v9=.slice (xa.map fun b=>⟨b,0,none⟩) t xc∧Hid (xs.length=t)∧Hid (St w.heap.size w wr (star (sli 3 xa xc xs) emp))∧Hid (xs=(c.take i).filter fun y=>y != x)) (fun _ v10 _=>j-(intOf v10).toNat)
    case atStart=>exact⟨0,none,0,0,[],Nat.zero_le _,Nat.le_refl _,rfl,rfl,(rfl:([]:List Int).length=0),HST0.out,(rfl:[]=(c.take 0).filter fun y=>y != x)⟩
    case round =>
     obtain⟨i,xa,xc,t,xs,hi,ht,rfl,rfl,HXL,HST,HXS⟩:=hrel
     by_cases hij:i<j
     ·obtain⟨bd,od,hA,hcell⟩:=(HR.out.grow HST.out.below).cells (by omega)
      subst hA
      have d1:=hcell i hij
      have hws:=without_succ (c:=c) (x:=x) (j:=i) (by rw[HLC.out];exact hij)
      obtain⟨y,hy⟩:∃ y,gi c i=y:=⟨_,rfl⟩
      rw[hy] at d1 hws
      have HWS:=Lib.hid hws
      have i0:(0:Int)≤(i:Int):=by omega
      have i1:(i:Int)<(j:Int):=by omega
      clear hcell hws hy
      cases hb:y != x with
      | false =>
       have HB:=Lib.hid hb
       go_wp2
       go_roundw
       case rel=>exact⟨i+1,xa,xc,t,xs,by omega,by omega,by go_num,rfl,HXL.out,HST.out,(by rw[HWS.out,HB.out];exact HXS.out:xs=(c.take (i+1)).filter fun y=>y != x)⟩
       case measure=>simp[intOf];omega
      | true =>
       have HB:=Lib.hid hb
       go_wp2_with (at_builtin;refine wpList_append_int rfl _ _ 27 3 rfl Tryz.underlying27 Tryz.infoInt HST.out t HXL.out rfl y rfl (by omega) ?_;intro b' cc7 w7 h7;have H7:=Lib.hid h7;clear h7)
       go_roundw
       case rel=>exact⟨i+1,some b',cc7,t+1,xs++[y],by omega,by omega,by go_num,rfl,(by rw[List.length_append,HXL.out];rfl:(xs++[y]).length=t+1),H7.out,(by rw[HWS.out,HB.out,HXS.out];rfl:xs++[y]=(c.take (i+1)).filter fun y=>y != x)⟩
       case measure=>simp[intOf];omega
     ·obtain rfl:i=j:=by omega
      have hxs:xs=c.filter fun y=>y != x:=by
       have:=HXS.out
       rwa [List.take_of_length_le (by rw[HLC.out];exact Nat.le_refl _)] at this
      have HXF:=Lib.hid hxs
      clear hxs HXS
      go_wp2
      go_loopw [9,11] (fun v9 v11 wr=>∃ (k:Nat) (ya:Option Nat) (yc u:Nat) (ys:List Int),k≤m∧u≤i+k∧v11=.int .i64 k∧v9=.slice (ya.map fun b=>⟨b,0,none⟩) u yc∧Hid (ys.length=u)∧Hid (St w.heap.size w wr (star (sli 3 ya yc ys) emp))∧Hid (ys=xs++(d.take k).filter fun y=>y != -x)) (fun _ v11 _=>m-(intOf v11).toNat)
      case atStart=>exact⟨0,xa,xc,t,xs,Nat.zero_le _,by omega,rfl,rfl,HXL.out,HST.out,(by simp:xs=xs++(d.take 0).filter fun y=>y != -x)⟩
      case round =>
       obtain⟨k,ya,yc,u,ys,hk,hu,rfl,rfl,HYL,HST2,HYS⟩:=hrel
       by_cases hkm:k<m
       ·obtain⟨bd,od,hA,hcell⟩:=(HR'.out.grow HST2.out.below).cells (by omega)
        subst hA
        have d1:=hcell k hkm
        have hws:=without_succ (c:=d) (x:=-x) (j:=k) (by rw[HLD.out];exact hkm)
        obtain⟨y,hy⟩:∃ y,gi d k=y:=⟨_,rfl⟩
        rw[hy] at d1 hws
        have HWS:=Lib.hid hws
        have k0:(0:Int)≤(k:Int):=by omega
        have k1:(k:Int)<(m:Int):=by omega
        clear hcell hws hy
        cases hb:y != -x with
        | false =>
         have HB:=Lib.hid hb
         go_wp2
         go_roundw
         case rel=>exact⟨k+1,ya,yc,u,ys,by omega,by omega,by go_num,rfl,HYL.out,HST2.out,(by rw[HWS.out,HB.out];exact HYS.out:ys=xs++(d.take (k+1)).filter fun y=>y != -x)⟩
         case measure=>simp[intOf];omega
        | true =>
         have HB:=Lib.hid hb
         go_wp2_with (at_builtin;refine wpList_append_int rfl _ _ 27 3 rfl Tryz.underlying27 Tryz.infoInt HST2.out u HYL.out rfl y rfl (by omega) ?_;intro b' cc7 w7 h7;have H7:=Lib.hid h7;clear h7)
         go_roundw
         case rel=>exact⟨k+1,some b',cc7,u+1,ys++[y],by omega,by omega,by go_num,rfl,(by rw[List.length_append,HYL.out];rfl:(ys++[y]).length=u+1),H7.out,(by rw[HWS.out,HB.out,HYS.out,List.append_assoc];rfl:ys++[y]=xs++(d.take (k+1)).filter fun y=>y != -x)⟩
         case measure=>simp[intOf];omega
       ·obtain rfl:k=m:=by omega
        have hys:ys=resA c d x:=by
         have:=HYS.out
         rw[List.take_of_length_le (by rw[HLD.out];exact Nat.le_refl _),HXF.out] at this
         exact this
        have hset:setF ys=some s:=by rw[hys];exact HRES.out
        have HSET:=Lib.hid hset
        have hrd:=St.rd HST2.out (by rw[HYL.out];omega)
        rw[HYL.out] at hrd
        have HRY:=Lib.hid hrd
        clear hys hset hrd HYS
        go_wp2_with fail
        refine (rset_any _ u yc ys _ HRY.out (by omega)).mono ?_
        rintro e w9 hpost
        obtain⟨a9,c9,rfl,hst9⟩:=hpost.1 s HSET.out
        have hlen:=setF_len HSET.out
        rw[HYL.out] at hlen
        have hrd9:=St.rd (hst9.conseq (star_emp _).symm) (by omega)
        have HRD9:=Lib.hid hrd9
        have HB9:=Lib.hid (HST2.out.below.trans (hst9.below.mono HST2.out.below.size))
        obtain⟨sl,hsl⟩:∃ sl,s.length=sl:=⟨_,rfl⟩
        have HSL:=Lib.hid hsl
        unfold slv
        rw[hsl]
        clear hpost hst9 hlen hrd9 hsl
        go_wp2
        go_ret2
        refine⟨HB9.out,fun s' hs'=>?_,fun h=>(by rw[HS1.out] at h;cases h)⟩
        rw[HS1.out] at hs'
        cases hs'
        exact⟨_,c9,by rw[HSL.out];rfl,HRD9.out⟩
   ·have e0:((q:Int) != 1)=true:=by simp;omega
    have hno:=resF_not (c:=c) (d:=d) (by rw[HPL.out];exact hq1)
    have HN:=Lib.hid hno
    clear htk hpl hno
    go_wp2
    go_ret2
    exact clPost_none (Below.refl _ _) HN.out
end Go.Proofs.YthbbmdnfkkffjaaGreat
namespace Go.Proofs.PlaitSep
open Go Go.RowKit Go.Proofs.PlaitPure
theorem setCell_others {w:World} {b i:Nat} {v:Value} (k:Nat) (hk:k≠b):(w.setCell ⟨b,i,none⟩ v).heap[k]?=w.heap[k]?:=by
 unfold World.setCell
 simp[Array.getElem?_modify,Ne.symm hk]
theorem NoInt.same {w w':World} {b:Nat} (h:NoInt w b) (e:w'.heap[b]?=w.heap[b]?):NoInt w' b:=by
 intro i v hv
 refine h i v ?_
 rw[←hv]
 unfold World.cell?
 rw[e]
def NoI (w:World) (a:Option Nat):Prop:=∀ b,a=some b→NoInt w b
theorem Rd.keepO {w w':World} {a:Option Nat} {A:Option Addr} {n:Nat} {xs:List Int} (h:Rd w A n xs) (hb:NoI w a) (hk:∀ k,k<w.heap.size→a≠some k→w'.heap[k]?=w.heap[k]?):Rd w' A n xs :=
 h.keep fun b' o e hp=>hk b' (h.lt b' o e hp) fun e2=>h.ne (hb b' e2) b' o e hp rfl
def RowsV (w:World) (V:List Value) (D:List (List Int)):Prop:=V.length=D.length∧∀ j,j<D.length→∃ A c,V[j]?=some (.slice A (gl D j).length c)∧Rd w A (gl D j).length (gl D j)
theorem RowsV.nil (w:World):RowsV w [] []:=⟨rfl,fun j hj=>absurd hj (Nat.not_lt_zero j)⟩
theorem RowsV.grow {w w':World} {V:List Value} {D:List (List Int)} (h:RowsV w V D) (hb:Below w.heap.size w w'):RowsV w' V D :=
 ⟨h.1,fun j hj=>by obtain⟨A,c,h1,h2⟩:=h.2 j hj;exact⟨A,c,h1,h2.grow hb⟩⟩
theorem RowsV.keepO {w w':World} {a:Option Nat} {V:List Value} {D:List (List Int)} (h:RowsV w V D) (hb:NoI w a) (hk:∀ k,k<w.heap.size→a≠some k→w'.heap[k]?=w.heap[k]?):RowsV w' V D :=
 ⟨h.1,fun j hj=>by obtain⟨A,c,h1,h2⟩:=h.2 j hj;exact⟨A,c,h1,h2.keepO hb hk⟩⟩
theorem RowsV.noint {w:World} {V:List Value} {D:List (List Int)} (h:RowsV w V D):∀ u∈V,∀ x,u≠.int .i64 x:=by
 intro u hu x
 obtain⟨j,hj,rfl⟩:=List.getElem_of_mem hu
 obtain⟨A,c,h1,_⟩:=h.2 j (by rw[←h.1];exact hj)
 rw[List.getElem?_eq_getElem hj] at h1
 simp only[Option.some.injEq] at h1
 rw[h1]
 simp
theorem gl_append_left {D:List (List Int)} {d:List Int} {j:Nat} (h:j<D.length):gl (D++[d]) j=gl D j:=by simp[gl,List.getD_eq_getElem?_getD,List.getElem?_append_left h]
theorem gl_append_last {D:List (List Int)} {d:List Int}:gl (D++[d]) D.length=d:=by simp[gl,List.getD_eq_getElem?_getD]
theorem RowsV.snoc {w:World} {V:List Value} {D:List (List Int)} {A:Option Addr} {d:List Int} (h:RowsV w V D) (hr:Rd w A d.length d) (c n:Nat) (hn:d.length=n):RowsV w (V++[.slice A n c]) (D++[d]):=by
 subst hn
 refine⟨by simp[h.1],fun j hj=>?_⟩
 by_cases hjD:j<D.length
 ·obtain⟨A2,c2,h1,h2⟩:=h.2 j hjD
  refine⟨A2,c2,?_,by rw[gl_append_left hjD];exact h2⟩
  rw[gl_append_left hjD,List.getElem?_append_left (by rw[h.1];exact hjD)]
  exact h1
 ·have e:j=D.length:=by simp at hj;omega
  subst e
  refine⟨A,c,?_,by rw[gl_append_last];exact hr⟩
  rw[gl_append_last,←h.1]
  simp
theorem RowsV.rd2 {B:Nat} {w0 w:World} {F:HP} {e:TypeId} {a:Option Nat} {n c:Nat} {V:List Value} {D:List (List Int)} (h:RowsV w V D) (hst:St B w0 w (star (sl a n c e 1 V) F)) (hn:n≤140737488355328):Rd2 w (a.map fun b=>⟨b,0,none⟩) n D:=by
 obtain⟨hx,_,_,hnone,_⟩:=hst.sat.sl_facts
 have hl:D.length=n:=by rw[←h.1];omega
 refine⟨hl,hn,fun hp=>?_⟩
 cases a with
 | none=>have:=(hnone rfl).1;omega
 | some b =>
  refine⟨b,0,rfl,fun j hj=>?_⟩
  obtain⟨A,c',h1,h2⟩:=h.2 j (by omega)
  refine⟨A,c',?_,h2⟩
  rw[Nat.zero_add,St.sl_cell (h:=hst) j (by omega)]
  exact h1
theorem St.sl_lt {B:Nat} {w0 w:World} {F:HP} {e:TypeId} {a:Option Nat} {n c sz:Nat} {V:List Value} (hst:St B w0 w (star (sl a n c e sz V) F)):∀ b,a=some b→b<w.heap.size:=by
 intro b hb
 subst hb
 obtain⟨cur,_,_,_,_,_,hp⟩:=hst.sat.sl_pt
 exact (Array.getElem?_eq_some_iff.1 (Sat.one hp).1).1
theorem NoI.grow {w w':World} {a:Option Nat} (h:NoI w a) (hlt:∀ b,a=some b→b<w.heap.size) (hb:Below w.heap.size w w'):NoI w' a:=fun b e=>(h b e).same (hb.block b (hlt b e))
section
variable {P:Program} {ops:Array Oper} {rest:List Oper} {o:Oper} {a:Act} {Q:Exit→Act→World→Prop}
theorem wpList_store_ptk {w:World} (hgd:o.guard=none) (t:TypeId) (x y:Operand) (ho:o.op=.store t x y) (hsz:(P.info? t).map (·.size)=some 1)
  {B:Nat} {w0:World} {b:Nat} {e:TypeId} {xs:List Value} {F:HP} (hst:St B w0 w (star (pt b e xs) F)) (i:Nat) (v:Value) (hx:a.eval x=.pointer (some ⟨b,i,none⟩)) (hy:a.eval y=v) (h1:v.oneCell'=true) (hi:i<xs.length)
  (h:∀ w',St B w0 w' (star (pt b e (xs.set i v)) F)→(∀ k,k≠b→w'.heap[k]?=w.heap[k]?)→wpList P ops Q rest (a.put o.dst undef) w') :
  wpList P ops Q (o :: rest) a w:=by
 refine wpList_plain hgd fun K hK=>?_
 have hr:=run_storeAt1 (P:=P) (w:=w) t b i v hsz h1 ⟨xs[i],by rw[hst.pt_cell i];simp[hi]⟩ (hst.pt_free i)
 unfold Oper.wp execOp
 simp only[ho,hx,hy,Sem.run_bind,Sem.run_pure,hr,Result.andThen_ok]
 exact hK _ _ (h _ (hst.pt_set i v) fun k hk=>setCell_others k hk)
end
end Go.Proofs.PlaitSep
namespace Go.Proofs.YthbbmdnfkkffjaaGreat
open Go.RowKit Go.Proofs.PlaitSep Go.Proofs.PlaitPure
def DerPost (w:World) (r:Option (List (List Int))) (e:Ending) (w':World):Prop :=
 Below w.heap.size w w'∧(∀ D,r=some D→∃ a c V,e=.returned (.tuple #[.slice (a.map fun b=>⟨b,0,none⟩) D.length c,.int .i64 0])∧St w.heap.size w w' (star (sl a D.length c 27 1 V) emp)∧RowsV w' V D∧NoI w' a) ∧
  (r=none→e=.returned (.tuple #[.slice none 0 0,.int .i64 121]))
theorem Tryz.sizeRows:(Tryz.prog.info? 37).map (·.size)=some 1:=by kernel_rfl
theorem derGo_cons {G D:List (List Int)} {s:List Int} {r:List (List Int)}:derGo G D (s :: r)=match stepF G D s with
  | none=>none
  | some c=>derGo G (D++[c]) r:=rfl
theorem mem_flatten_len {G:List (List Int)} {g:List Int} (h:g∈G):g.length≤G.flatten.length:=by
 induction G with
 | nil=>cases h
 | cons x r ih =>
  rw[List.flatten_cons,List.length_append]
  rcases List.mem_cons.1 h with rfl | h
  ·omega
  ·have:=ih h;omega
set_option maxRecDepth 100000 in
set_option maxHeartbeats 4000000 in
theorem derive_any (AG:Option Addr) (nG cG:Nat) (G:List (List Int)) (AL:Option Addr) (nL cL:Nat) (l:List (List Int)) (w:World) (hG:Rd2 w AG nG G) (hL:Rd2 w AL nL l) (hcap:Caps w AL nL) (hnG:nG≤1000000) (hnL:nL≤1000000)
  (hsum:G.flatten.length≤1000000) (hLs:∀ j,j<nL→(gl l j).length≤100000) :
  Calls Tryz.prog 80 #[.slice AG nG cG,.slice AL nL cL] w (DerPost w (derGo G [] l)):=by
 have HG:=Lib.hid hG
 have HL:=Lib.hid hL
 have HCAP:=Lib.hid hcap
 have HGS:=Lib.hid (show ∀ g∈G,g.length≤1000000 from fun g hg=>Nat.le_trans (mem_flatten_len hg) hsum)
 have HSUM:=Lib.hid hsum
 have HLS:=Lib.hid hLs
 have HST0:=Lib.hid ((St.start w).pt_new #[.slice AG nG cG,.slice none 0 0] 134)
 clear hG hL hcap hsum hLs
 go_enter Tryz.func80,Tryz.ntmps80
 go_wp2
 go_loopw [16] (fun v16 wr=>∃ (j:Nat) (a:Option Nat) (c:Nat) (V:List Value) (D:List (List Int)),j≤nL∧v16=.int .i64 j∧Hid (D.length=j) ∧
  Hid (St w.heap.size w wr (star (pt w.heap.size 134 [.slice AG nG cG,.slice (a.map fun b=>⟨b,0,none⟩) j c]) (star (sl a j c 27 1 V) emp)))∧Hid (RowsV wr V D)∧Hid (NoI wr a)∧Hid (GoodD G D)∧Hid (derGo G [] l=derGo G D (l.drop j))) (fun v16 _=>nL-(intOf v16).toNat)
 case atStart =>
  refine⟨0,none,0,[],[],Nat.zero_le _,rfl,(rfl:([]:List (List Int)).length=0),(?_:St w.heap.size w _ (star (pt w.heap.size 134 [.slice AG nG cG,.slice none 0 0]) (star (sl none 0 0 27 1 []) emp))),RowsV.nil _,(fun b hb=>(by cases hb):NoI _ none),(fun d hd=>(by cases hd):GoodD G []),(rfl:derGo G [] l=derGo G [] (l.drop 0))⟩
  rw[sl_none,star_emp]
  exact HST0.out
 case round =>
  obtain⟨j,a,c,V,D,hj,rfl,HDL,HST,HRV,HNI,HGD,HGO⟩:=hrel
  by_cases hjn:j<nL
  ·obtain⟨ab,ao,hA,hc⟩:=(HL.out.grow HST.out.below).cells (by omega)
   subst hA
   obtain⟨Aj,cj,d1,hrj⟩:=hc j hjn
   have hcj:=(HCAP.out.grow HL.out HST.out.below) ab ao j rfl hjn _ _ _ d1
   have hsm:=HLS.out j hjn
   have hjl:j<l.length:=by have:=HL.out.len;omega
   have hdrop:l.drop j=gl l j :: l.drop (j+1):=by rw[List.drop_eq_getElem_cons hjl,gl_eq l j hjl]
   obtain⟨s,hs⟩:∃ s,gl l j=s:=⟨_,rfl⟩
   obtain⟨ln,hln⟩:∃ ln,s.length=ln:=⟨_,rfl⟩
   rw[hs,hln] at d1 hrj hcj
   rw[hs,hln] at hsm
   have hgo:derGo G [] l=match stepF G D s with
     | none=>none
     | some c=>derGo G (D++[c]) (l.drop (j+1)):=by rw[HGO.out,hdrop,hs,derGo_cons]
   have HGO2:=Lib.hid hgo
   have HRJ:=Lib.hid hrj
   have hj0:(0:Int)≤(j:Int):=by omega
   have hj1:(j:Int)<(nL:Int):=by omega
   have hba:Below wr.heap.size wr (wr.alloc (.cells #[.slice Aj ln cj] 106)):=(Below.refl _ _).alloc (Nat.le_refl _) _
   have HBA:=Lib.hid hba
   have hda:DerAt wr w.heap.size AG nG cG (a.map fun b=>⟨b,0,none⟩) j c G D :=
    ⟨HST.out.pt_cell 0,HST.out.pt_cell 1,HG.out.grow HST.out.below,HRV.out.rd2 (F:=star (pt w.heap.size 134 [.slice AG nG cG,.slice (a.map fun b=>⟨b,0,none⟩) j c]) emp) (HST.out.conseq (by ac_rfl)) (by omega)⟩
   have HDA:=Lib.hid (hda.grow hba)
   have HDS:=Lib.hid (show ∀ d∈D,d.length≤1000000 from fun d hd=>Nat.le_trans (HGD.out.len d hd) HSUM.out)
   clear hc hrj hs hln hdrop hjl hgo hba hda HGO
   go_wp2_with fail
   refine (tstep_any w.heap.size AG nG cG _ j c G D Aj ln cj s _ HDA.out hnG (by omega) HGS.out HDS.out (fun d hd=>(HGD.out d hd).1) (HRJ.out.grow HBA.out) hsm hcj).mono ?_
   rintro e w2 ⟨hb2,hgood,hbad⟩
   have hb12:Below wr.heap.size wr w2:=HBA.out.trans (hb2.mono (by simp))
   have HST2:=Lib.hid (HST.out.grow hb12)
   have HGOOD:=Lib.hid hgood
   have HBAD:=Lib.hid hbad
   have HB12:=Lib.hid hb12
   clear hb2 hgood hbad hb12 d1
   cases hst:stepF G D s with
   | none =>
    have he:=HBAD.out hst
    subst he
    have HN:=Lib.hid (show derGo G [] l=none by rw[HGO2.out,hst])
    clear hst
    go_wp2
    go_ret2
    exact⟨HST2.out.below,fun D hD=>(by rw[HN.out] at hD;cases hD),fun _=>rfl⟩
   | some x =>
    obtain⟨A1,k1,rfl,hrd⟩:=HGOOD.out x hst
    have HNEW:=Lib.hid (show derGo G [] l=derGo G (D++[x]) (l.drop (j+1)) by rw[HGO2.out,hst])
    have HGD2:=Lib.hid (HGD.out.snoc hst)
    have HRDX:=Lib.hid hrd
    have hslt:=(HST.out.conseq (show _=star (sl a j c 27 1 V) (star (pt w.heap.size 134 [.slice AG nG cG,.slice (a.map fun b=>⟨b,0,none⟩) j c]) emp) by ac_rfl)).sl_lt
    have HNI2:=Lib.hid (HNI.out.grow hslt HB12.out)
    have HRV2:=Lib.hid (HRV.out.grow HB12.out)
    have hs3:St w.heap.size w w2 (star (sl a j c 27 1 V) (star (pt w.heap.size 134 [.slice AG nG cG,.slice (a.map fun b=>⟨b,0,none⟩) j c]) emp)):=HST2.out.conseq (by ac_rfl)
    have HS3:=Lib.hid hs3
    have d2:w2.cell? ⟨w.heap.size,1,none⟩=some (.slice (a.map fun b=>⟨b,0,none⟩) j c):=HST2.out.pt_cell 1
    obtain⟨xl,hxl⟩:∃ xl,x.length=xl:=⟨_,rfl⟩
    have HXL:=Lib.hid hxl
    rw[hxl]
    clear hst hrd hslt hs3 hxl HGOOD HBAD
    go_wp2_with (first
     | (at_builtin;refine wpList_append1k rfl _ _ 37 27 (.slice none 0 0) 24 rfl Tryz.underlying37 Tryz.infoRow rfl HS3.out rfl (.slice A1 xl k1) rfl rfl (by omega) (by simp only[maxLen];omega) ?_;intro b' c' w3 h3 hk3 hq3;have H3:=Lib.hid h3;have HK3:=Lib.hid hk3;have HQ3:=Lib.hid hq3;have h5:=h3.conseq (show _=star (pt w.heap.size 134 [.slice AG nG cG,.slice (a.map fun b=>⟨b,0,none⟩) j c]) (star (sl (some b') (j+1) c' 27 1 (V++[.slice A1 xl k1])) emp) by ac_rfl);clear h3 hk3 hq3)
     | (refine wpList_store_ptk rfl 37 _ _ rfl Tryz.sizeRows h5 1 (.slice (some ⟨b',0,none⟩) (j+1) c') rfl rfl rfl (by simp) ?_;intro w4 h6 hk6;have H5:=Lib.hid h5;have H6:=Lib.hid h6;have HK6:=Lib.hid hk6;clear h5 h6 hk6))
    have hne:w.heap.size≠b':=Sat.pt_sl_ne (F:=emp) (H5.out.sat)
    have hni3:NoI w3 (some b'):=fun b0 e=>by
     cases e
     exact fun i u hu=>HQ3.out (fun u=>∀ x,u≠.int .i64 x) HRV2.out.noint (by simp) (by simp[Value.cells]) (fun b0 i u e hu=>HNI2.out b0 e i u hu) i u hu
    have hrv3:RowsV w3 (V++[.slice A1 xl k1]) (D++[x]):=(HRV2.out.keepO HNI2.out HK3.out).snoc (HRDX.out.keepO HNI2.out HK3.out) k1 xl HXL.out
    have hnp:NoI w3 (some w.heap.size):=fun b0 e=>by
     cases e
     intro i u hu x
     rw[H5.out.pt_cell i] at hu
     match i,hu with
     | 0,hu=>cases hu;simp
     | 1,hu=>cases hu;simp
     | _+2,hu=>simp at hu
    have hrv4:RowsV _ (V++[.slice A1 xl k1]) (D++[x]):=hrv3.keepO hnp fun k _ hk=>HK6.out k fun e=>hk (by rw[e])
    have hni4:NoI _ (some b'):=fun b0 e=>(hni3 b0 e).same (HK6.out b0 (by cases e;exact fun e=>hne e.symm))
    have HRV4:=Lib.hid hrv4
    have HNI4:=Lib.hid hni4
    clear hne hni3 hrv3 hnp hrv4 hni4
    go_wp2
    go_roundw
    case rel=>exact⟨j+1,some b',c',V++[Value.slice A1 xl k1],D++[x],by omega,by go_num,(by rw[List.length_append,HDL.out];rfl:(D++[x]).length=j+1),H6.out,HRV4.out,HNI4.out,HGD2.out,HNEW.out⟩
    case measure=>simp[intOf];omega
  ·obtain rfl:j=nL:=by omega
   have hfin:derGo G [] l=some D:=by
    have:=HGO.out
    rwa [List.drop_of_length_le (by have:=HL.out.len;omega)] at this
   have HFIN:=Lib.hid hfin
   have d2:wr.cell? ⟨w.heap.size,1,none⟩=some (.slice (a.map fun b=>⟨b,0,none⟩) j c):=HST.out.pt_cell 1
   have hs3:St w.heap.size w wr (star (sl a j c 27 1 V) emp):=HST.out.dropl
   have HS3:=Lib.hid hs3
   clear hfin hs3
   go_wp2
   go_ret2
   refine⟨HST.out.below,fun E hE=>?_,fun hE=>(by rw[HFIN.out] at hE;cases hE)⟩
   rw[HFIN.out] at hE
   cases hE
   exact⟨a,c,V,by rw[HDL.out];rfl,by rw[HDL.out];exact HS3.out,HRV.out,HNI.out⟩
end Go.Proofs.YthbbmdnfkkffjaaGreat
namespace Go.Proofs.PlaitSep
open Go Go.RowKit Go.Proofs.PlaitPure
theorem RowsV.set {w:World} {V:List Value} {D:List (List Int)} {A:Option Addr} {j:Nat} (h:RowsV w V D) (hj:j<D.length) (hr:Rd w A (gl D j).length (gl D j)) (c n:Nat) (hn:(gl D j).length=n):RowsV w (V.set j (.slice A n c)) D:=by
 subst hn
 refine⟨by simp[h.1],fun i hi=>?_⟩
 by_cases e:i=j
 ·subst e
  exact⟨A,c,by rw[List.getElem?_set_self (by rw[h.1];exact hj)],hr⟩
 ·obtain⟨A2,c2,h1,h2⟩:=h.2 i hi
  exact⟨A2,c2,by rw[List.getElem?_set_ne (Ne.symm e)];exact h1,h2⟩
theorem NoI.set {w:World} {b i:Nat} {u v:Value} (h:NoI w (some b)) (hc:w.cell? ⟨b,i,none⟩=some u) (hv:∀ x,v≠.int .i64 x):NoI (w.setCell ⟨b,i,none⟩ v) (some b):=by
 intro b0 e k y hy
 cases e
 by_cases hk:k=i
 ·subst hk
  rw[World.cell?_setCell_same w _ _ hc] at hy
  cases hy
  exact hv
 ·have hne:(⟨b,i,none⟩:Addr)≠⟨b,k,none⟩:=by intro e;cases e;exact hk rfl
  rw[World.cell?_setCell_other (h:=hne)] at hy
  exact h b rfl k y hy
end Go.Proofs.PlaitSep
namespace Go.Proofs.YthbbmdnfkkffjaaGreat
open Go.RowKit Go.Proofs.PlaitSep Go.Proofs.PlaitPure
def DervPost (w:World) (r:Option (List (List Int))) (e:Ending) (w':World):Prop :=
 Below w.heap.size w w'∧(∀ D,r=some D→∃ A c,e=.returned (.tuple #[.slice A D.length c,.int .i64 0])∧Rd2 w' A D.length D∧D.length≤c) ∧
  (r=none→e=.returned (.tuple #[.slice none 0 0,.int .i64 121]))
theorem derGo_len {G:List (List Int)}:∀ {l D E:List (List Int)},derGo G D l=some E→E.length=D.length+l.length
 | [],D,E,h=>by cases h;simp
 | s :: r,D,E,h=>by
  unfold derGo at h
  split at h
  ·cases h
  ·have:=derGo_len h
   simp at this ⊢
   omega
theorem goodD_nil (G:List (List Int)):GoodD G []:=fun d hd=>by cases hd
end Go.Proofs.YthbbmdnfkkffjaaGreat

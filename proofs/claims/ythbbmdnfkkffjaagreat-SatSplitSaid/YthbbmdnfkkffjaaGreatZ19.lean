/-
  Parts of the proof, joined by program: Lrn.
-/
import Derived.Test.YthbbmdnfkkffjaaGreatZ16
import Derived.Test.YthbbmdnfkkffjaaGreatZ17
import Derived.Test.YthbbmdnfkkffjaaGreatZ18
import Derived.WalkMore
import Derived.Deep.CutBlock
namespace Go.Proofs.YthbbmdnfkkffjaaGreat
open Go.RowKit Go.Proofs.PlaitSep Go.Proofs.PlaitPure Go.Proofs.PlaitSat
def learnOk:Nat→SM→AM→Nat→Prop
 | 0,_,_,_=>False
 | i+1,S,A,o =>
  if gB A.met (gn S.trail i/2)=true then
   0<o∧(o≠1→∃ r:Nat,gi S.reason (gn S.trail i/2)=r∧r<S.cls.length∧(S.cl r).length≤100000∧(∀ x∈S.cl r,x/2<S.value.length)∧A.zero.length≤1000000∧A.lits.length≤1000000∧A.fr.length≤1000000 ∧
    learnOk i (S.meets { A with fr:=A.fr++[S.id r] } r (gn S.trail i)).1 (S.meets { A with fr:=A.fr++[S.id r] } r (gn S.trail i)).2.1 (o-1+(S.meets { A with fr:=A.fr++[S.id r] } r (gn S.trail i)).2.2))
  else learnOk i S A o
def learn0 (S:SM) (bad:Nat):SM×AM×Nat:=S.meets { met:=List.replicate S.value.length false,zero:=[],lits:=[0],fr:=[S.id bad] } bad 0
def learn1 (S:SM) (bad:Nat):SM×AM:=SM.learnGo (learn0 S bad).1.trail.length (learn0 S bad).1 (learn0 S bad).2.1 (learn0 S bad).2.2
structure LrOk (S:SM) (bad:Nat) (Z:Nat→Prop) (rk:Nat→Nat):Prop where
 h:HInv S
 sz:Sz S
 lt:bad<S.cls.length
 n:S.cls.length≤1000000
 len:(S.cl bad).length≤100000
 vars:∀ x∈S.cl bad,x/2<S.value.length
 tr:∀ x∈S.trail,x/2<S.value.length
 trl:S.trail.length≤900000
 ok:learnOk (learn0 S bad).1.trail.length (learn0 S bad).1 (learn0 S bad).2.1 (learn0 S bad).2.2
 un:UnOk S Z rk
 rk:∀ v,Z v→rk v<S.value.length
 zero:∀ v∈(learn1 S bad).2.zero,Z v
 zl:(learn1 S bad).2.zero.length≤200000
 frl:(learn1 S bad).2.fr.length≤1000000
 ll:(learn1 S bad).2.lits.length≤200000
 l0:0<(learn1 S bad).2.lits.length
 lits:∀ x∈(learn1 S bad).2.lits,x/2<S.value.length
section
variable {B:Nat} {w0 w:World} {p:Nat} {M:MM} {F:HP}
set_option maxRecDepth 100000 in
set_option maxHeartbeats 4000000 in
theorem learn_any {Z:Nat→Prop} {rk:Nat→Nat} (bad:Nat) (h:At B w0 w p M F) (hok:LrOk M.sv bad Z rk) :
  Calls Tryz.prog 94 #[.pointer (some ⟨p,0,none⟩),.int .i64 bad] w fun e w' =>
   ∃ (a b c:Fl Nat) (u:Fl Int) (st:Fl (Fl Int)) (li:Fl Nat) (fr:Fl Int),e=.returned (.agg #[li.v,fr.v,.int .i64 ((M.sv.learn bad).2.2.2:Nat)]) ∧
    At B w0 w' p ((M.u_heap a b c).u_un u st) (star (li.hp 98 vL) (star (fr.hp 3 vI) F))∧MM.sv ((M.u_heap a b c).u_un u st)=(M.sv.learn bad).1∧li.xs=(M.sv.learn bad).2.1∧fr.xs=(M.sv.learn bad).2.2.1:=by
 have hcll:M.sv.cls.length=M.cls.xs.length:=by show (M.cls.xs.map _).length=_;rw[List.length_map]
 have hlt:bad<M.cls.xs.length:=by rw[←hcll];exact hok.lt
 obtain⟨⟨rr,rd⟩,hi⟩:∃ x,M.cls.xs[bad]?=some x:=⟨M.cls.xs[bad],by simp[hlt]⟩
 obtain⟨bc,hbc⟩:=h.b_cls (by omega)
 obtain⟨o1,o2⟩:=h.o_cls hbc hi
 have c3:=h.c_cls
 obtain⟨nc,hnc⟩:∃ n,M.cls.xs.length=n:=⟨_,rfl⟩
 rw[hbc,hnc] at c3
 simp only[Option.map_some] at c3
 obtain⟨q1,q2⟩:=cl_of hi
 have r0:(0:Int)≤(bad:Int):=by omega
 have r1:(bad:Int)<(nc:Int):=by omega
 obtain⟨N,hN⟩:∃ N,M.value.xs.length=N:=⟨_,rfl⟩
 have hsm:N≤100000:=by rw[←hN];exact hok.h.hb.small
 have c4:=h.c_value
 obtain⟨va,hva⟩:∃ va,(M.value.a.map fun b=>(⟨b,0,none⟩:Addr))=va:=⟨_,rfl⟩
 rw[hN,hva] at c4
 obtain⟨r0',hr0⟩:∃ r,w.heap.size=r:=⟨_,rfl⟩
 have H:=Lib.hid h
 have HOK:=Lib.hid hok
 have HI:=Lib.hid hi
 have HQ2:=Lib.hid q2
 have HNV:=Lib.hid hN
 have HBC:=Lib.hid hbc
 have HNC:=Lib.hid hnc
 have h0:=h.box #[.slice none 0 0,.slice none 0 0,.int .i64 0] 129
 rw[hr0] at h0
 have al:=fun (o:Obj) (a:Addr) (v:Value) (k:w.cell? a=some v)=>(World.cell?_alloc_some (w:=w) a o (by rw[k];rfl)).trans k
 clear h hok hi q1 q2 hN hbc hnc hlt hcll hva
 go_enter Tryz.func94,Tryz.ntmps94
 go_upto_region 1 with fail
 have e4:=al (Obj.cells #[.slice none 0 0,.slice none 0 0,.int .i64 0] 129) _ _ c4
 have e3:=al (Obj.cells #[.slice none 0 0,.slice none 0 0,.int .i64 0] 129) _ _ c3
 have e2:=al (Obj.cells #[.slice none 0 0,.slice none 0 0,.int .i64 0] 129) _ _ o2
 try rw[hr0]
 clear al c4 c3 o2 o1 hr0
 revert h0 e4 e3 e2
 generalize w.alloc (Obj.cells #[.slice none 0 0,.slice none 0 0,.int .i64 0] 129)=w1
 intro h0 e4 e3 e2
 have HM:=Lib.hid h0.st
 clear h0
 go_step3
 go_upto_region 2 with (at_make;refine wpList_make rfl _ _ 84 4 (.bool false) 1 rfl Tryz.underlying84 Tryz.infoBool rfl N _ rfl rfl rfl (by omega) (by unfold maxLen;omega) (by omega) HM.out ?_;intro mb w2 h2;have H2:=Lib.hid h2;clear h2)
 have h3:At B w0 (w2.alloc (Obj.cells #[.pointer (some ⟨p,0,none⟩),.slice (some ⟨mb,0,none⟩) N N,.slice none 0 0,.slice none 0 0,.slice none 0 0,.int .i64 0] 143)) p M (star (stars (anParts p w2.heap.size ⟨⟨some mb,N,List.replicate N false⟩,⟨none,0,[]⟩,⟨none,0,[]⟩,⟨none,0,[]⟩,0⟩)) (star (pt r0' 129 [.slice none 0 0,.slice none 0 0,.int .i64 0]) F)):=by
  have h4:=H2.out.pt_new #[.pointer (some ⟨p,0,none⟩),.slice (some ⟨mb,0,none⟩) N N,.slice none 0 0,.slice none 0 0,.slice none 0 0,.int .i64 0] 143
  refine At.of_an (h4.conseq ?_) H.out.lastN
  simp only[anParts,cellsA,Fl.hp,Fl.v,List.length_replicate,List.map_replicate,List.length_nil,List.map_nil,sl_empty,stars_cons,stars_nil,star_emp,Option.map_some,Option.map_none,vB,vN]
  show star (pt w2.heap.size 143 [.pointer (some ⟨p,0,none⟩),.slice (some ⟨mb,0,none⟩) N N,.slice none 0 0,.slice none 0 0,.slice none 0 0,.int .i64 0]) _=_
  ac_rfl
 obtain⟨a0,ha0⟩:∃ a0,w2.heap.size=a0:=⟨_,rfl⟩
 have e4:=h3.c_cls
 rw[HBC.out,HNC.out] at e4
 simp only[Option.map_some] at e4
 obtain⟨_,o2⟩:=h3.o_cls HBC.out HI.out
 rw[ha0] at h3 ⊢
 clear H2 ha0
 revert h3 e4 o2
 generalize w2.alloc (Obj.cells #[.pointer (some ⟨p,0,none⟩),.slice (some ⟨mb,0,none⟩) N N,.slice none 0 0,.slice none 0 0,.slice none 0 0,.int .i64 0] 143)=w3
 intro h3 e4 o2
 have al:=fun (o:Obj) (a:Addr) (v:Value) (k:w3.cell? a=some v)=>(World.cell?_alloc_some (w:=w3) a o (by rw[k];rfl)).trans k
 have e5:=al (Obj.cells #[.int .u32 0] 98) _ _ e4
 have o3:=al (Obj.cells #[.int .u32 0] 98) _ _ o2
 have h4:=(h3.new1 (.int .u32 0) 98).new1 (.int .i64 rd) 3
 have g3:=(((h3.alloc (Obj.cells #[.int .u32 0] 98)).alloc (Obj.cells #[.int .i64 rd] 3)).an_c 3)
 have g4:=(((h3.alloc (Obj.cells #[.int .u32 0] 98)).alloc (Obj.cells #[.int .i64 rd] 3)).an_c 4)
 have g5:=(((h3.alloc (Obj.cells #[.int .u32 0] 98)).alloc (Obj.cells #[.int .i64 rd] 3)).an_c 5)
 simp only[cellsA,List.getElem?_cons_succ,List.getElem?_cons_zero] at g3 g4 g5
 obtain⟨g3,f3⟩:=g3
 obtain⟨g4,f4⟩:=g4
 obtain⟨g5,f5⟩:=g5
 clear al e4 o2
 go_upto_region 3 with fail
 have hsz:(w3.alloc (Obj.cells #[.int .u32 0] 98)).heap.size=w3.heap.size+1:=by simp
 rw[hsz] at h4
 obtain⟨b1,hb1⟩:∃ b1,w3.heap.size=b1:=⟨_,rfl⟩
 try rw[hb1]
 rw[hb1] at h4
 have h5:St B w0 ((w3.alloc (Obj.cells #[.int .u32 0] 98)).alloc (Obj.cells #[.int .i64 rd] 3)) (star (pt a0 143 [.pointer (some ⟨p,0,none⟩),.slice (some ⟨mb,0,none⟩) N N,.slice none 0 0,.slice none 0 0,.slice none 0 0,.int .i64 0]) (star (sl (some (b1+1)) 1 1 3 1 [.int .i64 rd]) (star (sl (some b1) 1 1 98 1 [.int .u32 0]) (star (sl (some mb) N N 4 1 (List.replicate N (.bool false))) (star (stars (parts p M)) (star (pt r0' 129 [.slice none 0 0,.slice none 0 0,.int .i64 0]) F)))))):=by
  refine h4.st.conseq ?_
  simp only[anParts,cellsA,Fl.hp,Fl.v,List.length_replicate,List.map_replicate,List.length_nil,List.map_nil,sl_empty,stars_cons,stars_nil,star_emp,Option.map_some,Option.map_none,vB,vN]
  show _=star (pt a0 143 [.pointer (some ⟨p,0,none⟩),.slice (some ⟨mb,0,none⟩) N N,.slice none 0 0,.slice none 0 0,.slice none 0 0,.int .i64 0]) _
  ac_rfl
 have h6:=((h5.pt_set 3 (.slice (some ⟨b1,0,none⟩) 1 1)).pt_set 4 (.slice (some ⟨b1+1,0,none⟩) 1 1)).pt_set 5 (.int .i64 0)
 simp only[List.set_cons_succ,List.set_cons_zero] at h6
 clear h4 h5 e5 o3 g3 g4 g5 f3 f4 f5 hsz e4 e3 e2
 have h7:At B w0 (((((w3.alloc (Obj.cells #[.int .u32 0] 98)).alloc (Obj.cells #[.int .i64 rd] 3)).setCell ⟨a0,3,none⟩ (.slice (some ⟨b1,0,none⟩) 1 1)).setCell ⟨a0,4,none⟩ (.slice (some ⟨b1+1,0,none⟩) 1 1)).setCell ⟨a0,5,none⟩ (.int .i64 0)) p M (star (stars (anParts p a0 ⟨⟨some mb,N,List.replicate N false⟩,⟨none,0,[]⟩,⟨some b1,1,[0]⟩,⟨some (b1+1),1,[rd]⟩,0⟩)) (star (pt r0' 129 [.slice none 0 0,.slice none 0 0,.int .i64 0]) F)):=by
  refine At.of_an (h6.conseq ?_) H.out.lastN
  simp only[anParts,cellsA,Fl.hp,Fl.v,List.length_replicate,List.map_replicate,List.length_nil,List.map_nil,List.length_cons,List.map_cons,sl_empty,stars_cons,stars_nil,star_emp,emp_star,Option.map_some,Option.map_none,vB,vN,vL,vI]
  show star (pt a0 143 [.pointer (some ⟨p,0,none⟩),.slice (some ⟨mb,0,none⟩) N N,.slice none 0 0,.slice (some ⟨b1,0,none⟩) 1 1,.slice (some ⟨b1+1,0,none⟩) 1 1,.int .i64 0]) _=_
  ac_rfl
 clear h6 h3 hb1
 revert h7
 generalize (((((w3.alloc (Obj.cells #[.int .u32 0] 98)).alloc (Obj.cells #[.int .i64 rd] 3)).setCell ⟨a0,3,none⟩ (.slice (some ⟨b1,0,none⟩) 1 1)).setCell ⟨a0,4,none⟩ (.slice (some ⟨b1+1,0,none⟩) 1 1)).setCell ⟨a0,5,none⟩ (.int .i64 0))=w4
 intro h7
 obtain⟨A0,hA0⟩:∃ A:An,A=⟨⟨some mb,N,List.replicate N false⟩,⟨none,0,[]⟩,⟨some b1,1,[0]⟩,⟨some (b1+1),1,[rd]⟩,0⟩:=⟨_,rfl⟩
 obtain⟨FF,hFF⟩:∃ X,star (pt r0' 129 [.slice none 0 0,.slice none 0 0,.int .i64 0]) F=X:=⟨_,rfl⟩
 rw[←hA0,hFF] at h7
 have hl0:learn0 M.sv bad=SM.meets M.sv A0.am bad 0:=by
  unfold learn0
  rw[hA0,HQ2.out,show M.sv.value.length=N from HNV.out]
  rfl
 have hM0:=meets_any bad 0 h7 HOK.out.h (by rw[HNV.out,←HNV.out];exact HOK.out.sz.level) (by rw[hA0,HNV.out];show (List.replicate N false).length=N;simp) (by rw[HNC.out];omega) HOK.out.vars HOK.out.len (by rw[hA0];show 0≤_;omega) (by rw[hA0];show 1≤_;omega)
 rw[←hl0] at hM0
 have HM0:=Lib.hid hM0
 have HFF:=Lib.hid hFF
 have HL0:=Lib.hid (show A0.lev=0 by rw[hA0])
 clear h7 hl0 hM0 hFF hA0 r0 r1
 go_wp2_with fail
 refine HM0.out.mono ?_
 rintro e w5 ⟨rfl,a1,a2,a3,A1,h8,h9,h10,h11⟩
 obtain⟨o,ho⟩:∃ o,(learn0 M.sv bad).2.2=o:=⟨_,rfl⟩
 rw[ho]
 have hinv:=meetsGo_inv 0 (M.sv.cl bad) (S:=M.sv) (A:={ met:=List.replicate M.sv.value.length false,zero:=[],lits:=[0],fr:=[M.sv.id bad] }) (n:=0) HOK.out.h HOK.out.vars
 change HInv (learn0 M.sv bad).1∧(learn0 M.sv bad).1.value=M.sv.value∧(learn0 M.sv bad).2.1.met.length=(List.replicate M.sv.value.length false).length∧(learn0 M.sv bad).2.2≤0+(M.sv.cl bad).length∧(learn0 M.sv bad).2.1.fr=[M.sv.id bad] at hinv
 rw[←h9,←h10,ho] at hinv
 obtain⟨i1,i2,i3,i4,i5⟩:=hinv
 rw[List.length_replicate,show M.sv.value.length=N from HNV.out] at i3
 have hob:o≤100000:=by have:=HOK.out.len;omega
 have hlo:=HOK.out.ok
 rw[←h9,←h10,ho] at hlo
 have hl1:learn1 M.sv bad=SM.learnGo (MM.sv (M.u_heap a1 a2 a3)).trail.length (MM.sv (M.u_heap a1 a2 a3)) A1.am o:=by unfold learn1;rw[←h9,←h10,ho]
 obtain⟨t,ht⟩:∃ t,M.trail.xs.length=t+1:=by
  cases e:M.trail.xs.length with
  | zero=>rw[show (MM.sv (M.u_heap a1 a2 a3)).trail.length=0 from e] at hlo;exact hlo.elim
  | succ t=>exact⟨t,rfl⟩
 rw[show (MM.sv (M.u_heap a1 a2 a3)).trail.length=t+1 from ht] at hlo hl1
 obtain⟨L1,hL1⟩:∃ L,learn1 M.sv bad=L:=⟨_,rfl⟩
 rw[hL1] at hl1
 have HL1:=Lib.hid hL1
 have HLO:=Lib.hid hlo
 have HG1:=Lib.hid hl1.symm
 have HT:=Lib.hid ht
 have H8:=Lib.hid h8
 have HI1:=Lib.hid i1
 have HI3:=Lib.hid (show A1.met.xs.length=N∧A1.lev=0 from⟨i3,h11.trans HL0.out⟩)
 have htb:t+1≤900000:=by rw[←ht];exact HOK.out.trl
 have c12:=h8.c_trail
 rw[show (M.u_heap a1 a2 a3).trail.xs.length=t+1 from ht] at c12
 clear h8 h9 h10 h11 ho i1 i2 i3 i4 i5 hlo hl1 hL1 ht HM0
 go_wp2
 clear c12
 go_step3
 go_wp2
 go_loopg [6,7] t (fun g s6 s7 wr=>∃ (i o:Nat) (a1 a2 a3:Fl Nat) (A':An),s6=.int .i64 o∧s7=.int .i64 i∧i≤t∧o≤100000*(t+1-i)∧Hid (g=i) ∧
  Hid (At B w0 wr p (M.u_heap a1 a2 a3) (star (stars (anParts p a0 A')) FF))∧Hid (HInv (MM.sv (M.u_heap a1 a2 a3)))∧Hid (A'.met.xs.length=N∧A'.lev=0)∧Hid (learnOk (i+1) (MM.sv (M.u_heap a1 a2 a3)) A'.am o)∧Hid (SM.learnGo (i+1) (MM.sv (M.u_heap a1 a2 a3)) A'.am o=L1))
 case atStart=>exact⟨t,o,a1,a2,a3,A1,rfl,by go_num,Nat.le_refl _,by omega,rfl,H8.out,HI1.out,HI3.out,HLO.out,HG1.out⟩
 case round =>
  clear H8 HI1 HI3 HLO HG1
  obtain⟨i,o,a1,a2,a3,A',rfl,rfl,hit,hob2,hg,H3,HV,HA,HLO,HE⟩:=hrel
  obtain⟨l,hl⟩:∃ l,gn M.trail.xs i=l:=⟨_,rfl⟩
  have hix:i<M.trail.xs.length:=by rw[HT.out];omega
  obtain⟨bt,hbt⟩:=H3.out.b_trail (by show 0<M.trail.xs.length;omega)
  obtain⟨k1,_⟩:=H3.out.r_trail hbt (i:=i) (x:=l) (by rw[←hl];exact gn_some _ _ hix)
  simp only[vL] at k1
  have c12:=H3.out.c_trail
  rw[hbt,show (M.u_heap a1 a2 a3).trail.xs.length=t+1 from HT.out] at c12
  simp only[Option.map_some] at c12
  have hlv:l/2<N:=by rw[←HNV.out,←hl];exact HOK.out.tr _ (gn_mem _ _ hix)
  have hl6:l<1000000:=by omega
  have HVV:=Lib.hid (fun V=>v_any l V hl6)
  obtain⟨q,hq⟩:∃ q,l/2=q:=⟨_,rfl⟩
  have hlo:=HLO.out
  have hge:=HE.out
  rw[learnOk,show gn (MM.sv (M.u_heap a1 a2 a3)).trail i=l from hl] at hlo
  rw[SM.learnGo,show gn (MM.sv (M.u_heap a1 a2 a3)).trail i=l from hl] at hge
  rw[hq] at HVV hlo hge hlv
  obtain⟨bm,hbm⟩:=H3.out.ab_met (by rw[HA.out.1];omega)
  obtain⟨m,hm⟩:∃ m,gB A'.met.xs q=m:=⟨_,rfl⟩
  have hqm:q<A'.met.xs.length:=by rw[HA.out.1];exact hlv
  obtain⟨k4,f4⟩:=H3.out.ar_met hbm (i:=q) (x:=m) (by rw[←hm];exact gB_some _ _ hqm)
  have k5:=(H3.out.an_c 1).1
  simp only[cellsA,List.getElem?_cons_succ,List.getElem?_cons_zero] at k5
  rw[show A'.met.v=.slice (some ⟨bm,0,none⟩) N A'.met.c by unfold Fl.v;rw[hbm,HA.out.1];rfl] at k5
  have q0:(0:Int)≤(q:Int):=by omega
  have q9:(q:Int)<(N:Int):=by omega
  have t0:(0:Int)≤(i:Int):=by omega
  have t1:(i:Int)<((t+1:Nat):Int):=by omega
  rw[show gB A'.am.met q=m from hm] at hlo hge
  simp only[vB] at k4
  have HLQ:=Lib.hid hq
  have HLO2:=Lib.hid hlo
  have HGE:=Lib.hid hge
  have HHL:=Lib.hid hl
  clear hlo hge HLO HE hl hix hbt hbm hm hqm f4 hq
  go_upto_region 7 with fail
  go_quiet ((go_at_call 68;exact quietE HVV.out _))
  revert nq
  intro nq1
  cases m with
  | false =>
   have hlo:=HLO2.out
   have hge:=HGE.out
   rw[if_neg (by decide)] at hlo hge
   obtain⟨j,rfl⟩:∃ j,i=j+1:=by
    cases i with
    | zero=>exact hlo.elim
    | succ j=>exact⟨j,rfl⟩
   have HLO3:=Lib.hid hlo
   have HGE3:=Lib.hid hge
   clear hlo hge
   go_wp2
   go_roundg j
   case measure=>have:=hg.out;omega
   case rel=>exact⟨j,o,a1,a2,a3,A',rfl,rfl,by omega,by omega,rfl,H3.out.drewN _,HV.out,HA.out,HLO3.out,HGE3.out⟩
  | true =>
   have hlo:=HLO2.out
   have hge:=HGE.out
   rw[if_pos rfl] at hlo hge
   obtain⟨ho0,hlo⟩:=hlo
   have HLO3:=Lib.hid hlo
   have HGE3:=Lib.hid hge
   clear hlo hge HLO2 HGE k1 k4 k5 c12
   have H4:=Lib.hid (H3.out.drewN nq1)
   clear H3
   revert H4
   generalize wr.drewN nq1=w6
   intro H4
   by_cases ho1:o=1
   ·subst ho1
    have hge:=HGE3.out
    rw[if_pos rfl] at hge
    have HGE4:=Lib.hid hge
    have e7:decide (((0:Nat):Int)=0)=true:=by simp
    obtain⟨nl,hnl⟩:∃ n,A'.lits.xs.length=n:=⟨_,rfl⟩
    have hl0:0<nl:=by
     have h9:=HOK.out.l0
     rw[HL1.out,←hge] at h9
     have h8:0<(A'.lits.xs.set 0 (negL l)).length:=h9
     rw[List.length_set,hnl] at h8
     exact h8
    have hlb:nl≤200000:=by
     have h9:=HOK.out.ll
     rw[HL1.out,←hge] at h9
     have h8:(A'.lits.xs.set 0 (negL l)).length≤200000:=h9
     rw[List.length_set,hnl] at h8
     exact h8
    obtain⟨bl,hbl⟩:=H4.out.ab_lits (by omega)
    obtain⟨k6,f6⟩:=H4.out.ar_lits hbl (i:=0) (x:=gn A'.lits.xs 0) (gn_some _ _ (by omega))
    have k7:=(H4.out.an_c 3).1
    simp only[cellsA,List.getElem?_cons_succ,List.getElem?_cons_zero] at k7
    rw[show A'.lits.v=.slice (some ⟨bl,0,none⟩) nl A'.lits.c by unfold Fl.v;rw[hbl,hnl];rfl] at k7
    have hx1:=bits_xor1 l (by omega)
    have H5:=Lib.hid (show At B w0 (w6.setCell ⟨bl,0,none⟩ (.int .u32 (negL l))) p (M.u_heap a1 a2 a3) (star (stars (anParts p a0 (A'.u_lits ⟨A'.lits.a,A'.lits.c,A'.lits.xs.set 0 (negL l)⟩))) FF) from H4.out.aset_lits hbl (by omega) (negL l))
    have HBL:=Lib.hid hbl
    have HNL:=Lib.hid (show (A'.u_lits ⟨A'.lits.a,A'.lits.c,A'.lits.xs.set 0 (negL l)⟩).lits.xs.length=nl by rw[←hnl];exact List.length_set)
    have l0:(0:Int)<(nl:Int):=by omega
    have HL1b:=Lib.hid (show (MM.sv (M.u_heap a1 a2 a3),(A'.u_lits ⟨A'.lits.a,A'.lits.c,A'.lits.xs.set 0 (negL l)⟩).am)=L1 from hge)
    clear hge hbl hnl HLO3 HGE3
    go_upto_region 14 with fail
    clear k6 f6 k7 H4 HVV hlv q0 q9 t0 t1 hx1 hob2 hg hit HLQ HHL
    revert H5
    generalize w6.setCell ⟨bl,0,none⟩ (.int .u32 (negL l))=w7
    intro H5
    obtain⟨A2,hA2⟩:∃ A2,A'.u_lits ⟨A'.lits.a,A'.lits.c,A'.lits.xs.set 0 (negL l)⟩=A2:=⟨_,rfl⟩
    have hb2:A2.lits.a=some bl:=by rw[←hA2];exact HBL.out
    have hlev:A2.lev=0:=by rw[←hA2];exact HA.out.2
    rw[hA2] at H5 HNL HL1b
    have HB2:=Lib.hid hb2
    have HLEV:=Lib.hid hlev
    have hz2:∀ v∈A2.zero.xs,Z v:=by
     have h9:=HOK.out.zero
     rw[HL1.out,←HL1b.out] at h9
     exact h9
    have hzl:A2.zero.xs.length≤200000:=by
     have h9:=HOK.out.zl
     rw[HL1.out,←HL1b.out] at h9
     exact h9
    have hfl:A2.fr.xs.length≤1000000:=by
     have h9:=HOK.out.frl
     rw[HL1.out,←HL1b.out] at h9
     exact h9
    have hlv2:∀ x∈A2.lits.xs,x/2<N:=by
     have h9:=HOK.out.lits
     rw[HL1.out,←HL1b.out] at h9
     rw[←HNV.out]
     exact h9
    clear hA2 hb2 hlev HA HBL
    obtain⟨S1,hS1⟩:∃ S1,MM.sv (M.u_heap a1 a2 a3)=S1:=⟨_,rfl⟩
    have huo:UnOk S1 Z rk:=by
     have k1:=HOK.out.un
     rw[←hS1]
     exact⟨k1.units,k1.reason,k1.small,k1.cls,k1.pot,k1.ids,k1.z,k1.r⟩
    have hvs:S1.value.length=N:=by rw[←hS1];exact HNV.out
    have HUO:=Lib.hid huo
    have HVS:=Lib.hid hvs
    obtain⟨Q,hQ⟩:∃ Q,S1.unitAll A2.zero.xs A2.fr.xs=Q:=⟨_,rfl⟩
    have HQ:=Lib.hid hQ
    have HZ2:=Lib.hid hz2
    have HLV2:=Lib.hid hlv2
    have HS1:=Lib.hid hS1
    obtain⟨nz,hnz⟩:∃ nz,A2.zero.xs.length=nz:=⟨_,rfl⟩
    rw[hnz] at hzl
    have HNZ:=Lib.hid hnz
    have k8:=(H5.out.an_c 2).1
    simp only[cellsA,List.getElem?_cons_succ,List.getElem?_cons_zero] at k8
    obtain⟨za,hza⟩:∃ za,(A2.zero.a.map fun b=>(⟨b,0,none⟩:Addr))=za:=⟨_,rfl⟩
    rw[show A2.zero.v=.slice za nz A2.zero.c by unfold Fl.v;rw[hza,hnz]] at k8
    have HZA:=Lib.hid hza
    clear huo hvs hQ hz2 hS1 hnz hza hlv2
    go_wp2
    clear k8
    go_loopg [115] nz (fun g s115 wr=>∃ (k n:Nat) (fr u:Fl Int) (st:Fl (Fl Int)),s115=.int .i64 k∧k≤nz∧n≤1000000+k∧Hid (fr.xs.length=n)∧Hid (g=nz-k) ∧
     Hid (At B w0 wr p ((M.u_heap a1 a2 a3).u_un u st) (star (stars (anParts p a0 (A2.u_fr fr))) FF))∧Hid (Unt S1 (MM.sv ((M.u_heap a1 a2 a3).u_un u st)))∧Hid (SM.unitAll (MM.sv ((M.u_heap a1 a2 a3).u_un u st)) (A2.zero.xs.drop k) fr.xs=Q))
    case atStart=>exact⟨0,A2.fr.xs.length,A2.fr,M.units,M.steps,rfl,Nat.zero_le _,by omega,rfl,rfl,H5.out,Lib.hid (by show Unt S1 (MM.sv (M.u_heap a1 a2 a3));rw[HS1.out];exact Unt.refl _),Lib.hid (by show SM.unitAll (MM.sv (M.u_heap a1 a2 a3)) _ _=Q;rw[HS1.out];exact HQ.out)⟩
    case round =>
     obtain⟨k,n,fr,u,st,rfl,hkn,hnb,HFN,hg,H6,HUT,HE⟩:=hrel
     by_cases hkl:k<nz
     ·have e2:decide ((k:Int)<(nz:Int))=true:=by simp;omega
      obtain⟨bz,hbz⟩:=H6.out.ab_zero (by show 0<A2.zero.xs.length;rw[HNZ.out];omega)
      have hbz2:A2.zero.a=some bz:=hbz
      obtain rfl:za=some ⟨bz,0,none⟩:=by rw[←HZA.out,hbz2];rfl
      obtain⟨v,hv⟩:∃ v,gn A2.zero.xs k=v:=⟨_,rfl⟩
      have hkx:k<A2.zero.xs.length:=by rw[HNZ.out];exact hkl
      obtain⟨k3,_⟩:=H6.out.ar_zero hbz (i:=k) (x:=v) (by rw[←hv];exact gn_some _ _ hkx)
      simp only[vN] at k3
      have z1:=HZ2.out v (by rw[←hv];exact gn_mem _ _ hkx)
      have hdr:A2.zero.xs.drop k=v :: A2.zero.xs.drop (k+1):=by rw[←hv,gn_eq _ _ hkx];exact List.drop_eq_getElem_cons hkx
      have hE:=HE.out
      rw[hdr,SM.unitAll] at hE
      have hrq:=HOK.out.rk _ z1
      rw[show M.sv.value.length=N from HNV.out] at hrq
      have hun:SM.unit (MM.sv ((M.u_heap a1 a2 a3).u_un u st)) v=SM.unitGo N (MM.sv ((M.u_heap a1 a2 a3).u_un u st)) v:=by unfold SM.unit;rw[HUT.out.value,HVS.out]
      rw[hun] at hE
      have HC:=Lib.hid (fun V (hV:At B w0 V p ((M.u_heap a1 a2 a3).u_un u st) (star (stars (anParts p a0 (A2.u_fr fr))) FF))=>unit_any N V _ _ v hV (HUO.out.unt HUT.out) z1 hrq)
      have HTO:=Lib.hid (unit_to N (HUO.out.unt HUT.out) z1 hrq).1.unt
      obtain⟨x,hx⟩:∃ x,(SM.unitGo N (MM.sv ((M.u_heap a1 a2 a3).u_un u st)) v).2=x:=⟨_,rfl⟩
      rw[hx] at hE HC
      have HE2:=Lib.hid hE
      have p0:(0:Int)≤(k:Int):=by omega
      have p1:(k:Int)<(nz:Int):=by omega
      have c2:wr.cell? ⟨a0,4,none⟩=some (.slice (fr.a.map fun b=>⟨b,0,none⟩) n fr.c):=by rw[←HFN.out];exact (H6.out.an_c 4).1
      clear hE hv hbz hdr hkx hun hx hbz2 HE z1 hrq
      go_upto_region 17 with fail
      refine wp_region_E 14 (fun V:World=>V.cell? ⟨a0,4,none⟩=some (.slice (fr.a.map fun b=>⟨b,0,none⟩) n fr.c)) (by kernel_rfl) ?_
      have HS0:(fun V:World=>V.cell? ⟨a0,4,none⟩=some (.slice (fr.a.map fun b=>⟨b,0,none⟩) n fr.c)) wr.drew:=c2
      refine E_takeL (i:=0) (v:=?v1) rfl (by kernel_rfl) (by kernel_rfl) (by kernel_rfl) (by kernel_rfl) (fun _ _ _ h=>h) rfl ?hy1 HS0 ?_
      case hy1 =>
       intro V hSV
       try dsimp only at hSV
       first | (obtain⟨hSV1,hSV2,hSV3⟩:=hSV) | (obtain⟨hSV1,hSV2⟩:=hSV) | skip
       go_simp
       try with_reducible rfl
      try simp only[Act.put,List.setIfInBounds_toArray,List.set_cons_zero,List.set_cons_succ]
      refine E_takeL (i:=1) (v:=?v2) rfl (by kernel_rfl) (by kernel_rfl) (by kernel_rfl) (by kernel_rfl) (fun _ _ _ h=>h) rfl ?hy2 HS0 ?_
      case hy2 =>
       intro V hSV
       try dsimp only at hSV
       first | (obtain⟨hSV1,hSV2,hSV3⟩:=hSV) | (obtain⟨hSV1,hSV2⟩:=hSV) | skip
       go_simp
       try with_reducible rfl
      try simp only[Act.put,List.setIfInBounds_toArray,List.set_cons_zero,List.set_cons_succ]
      refine E_takeL (i:=2) (v:=?v3) rfl (by kernel_rfl) (by kernel_rfl) (by kernel_rfl) (by kernel_rfl) (fun _ _ _ h=>h) rfl ?hy3 HS0 ?_
      case hy3 =>
       intro V hSV
       try dsimp only at hSV
       first | (obtain⟨hSV1,hSV2,hSV3⟩:=hSV) | (obtain⟨hSV1,hSV2⟩:=hSV) | skip
       go_simp
       try with_reducible rfl
      try simp only[Act.put,List.setIfInBounds_toArray,List.set_cons_zero,List.set_cons_succ]
      refine E_takeL (i:=3) (v:=?v4) rfl (by kernel_rfl) (by kernel_rfl) (by kernel_rfl) (by kernel_rfl) (fun _ _ _ h=>h) rfl ?hy4 HS0 ?_
      case hy4 =>
       intro V hSV
       try dsimp only at hSV
       first | (obtain⟨hSV1,hSV2,hSV3⟩:=hSV) | (obtain⟨hSV1,hSV2⟩:=hSV) | skip
       go_simp
       try with_reducible rfl
      try simp only[Act.put,List.setIfInBounds_toArray,List.set_cons_zero,List.set_cons_succ]
      refine E_takeL (i:=4) (v:=?v5) rfl (by kernel_rfl) (by kernel_rfl) (by kernel_rfl) (by kernel_rfl) (fun _ _ _ h=>h) rfl ?hy5 HS0 ?_
      case hy5 =>
       intro V hSV
       try dsimp only at hSV
       first | (obtain⟨hSV1,hSV2,hSV3⟩:=hSV) | (obtain⟨hSV1,hSV2⟩:=hSV) | skip
       go_simp
       try with_reducible rfl
      try simp only[Act.put,List.setIfInBounds_toArray,List.set_cons_zero,List.set_cons_succ]
      refine E_takeL (i:=5) (v:=?v6) rfl (by kernel_rfl) (by kernel_rfl) (by kernel_rfl) (by kernel_rfl) (fun _ _ _ h=>h) rfl ?hy6 HS0 ?_
      case hy6 =>
       intro V hSV
       try dsimp only at hSV
       first | (obtain⟨hSV1,hSV2,hSV3⟩:=hSV) | (obtain⟨hSV1,hSV2⟩:=hSV) | skip
       go_simp
       try with_reducible rfl
      try simp only[Act.put,List.setIfInBounds_toArray,List.set_cons_zero,List.set_cons_succ]
      refine E_takeL (i:=6) (v:=?v7) rfl (by kernel_rfl) (by kernel_rfl) (by kernel_rfl) (by kernel_rfl) (fun _ _ _ h=>h) rfl ?hy7 HS0 ?_
      case hy7 =>
       intro V hSV
       try dsimp only at hSV
       first | (obtain⟨hSV1,hSV2,hSV3⟩:=hSV) | (obtain⟨hSV1,hSV2⟩:=hSV) | skip
       go_simp
       try with_reducible rfl
      try simp only[Act.put,List.setIfInBounds_toArray,List.set_cons_zero,List.set_cons_succ]
      refine E_takeL (i:=7) (v:=?v8) rfl (by kernel_rfl) (by kernel_rfl) (by kernel_rfl) (by kernel_rfl) (fun _ _ _ h=>h) rfl ?hy8 HS0 ?_
      case hy8 =>
       intro V hSV
       try dsimp only at hSV
       first | (obtain⟨hSV1,hSV2,hSV3⟩:=hSV) | (obtain⟨hSV1,hSV2⟩:=hSV) | skip
       go_simp
       try with_reducible rfl
      try simp only[Act.put,List.setIfInBounds_toArray,List.set_cons_zero,List.set_cons_succ]
      refine E_onlyL (i:=8) (by kernel_rfl) rfl (fun K hK=>?_)
      go_simp
      refine (HC.out _ (H6.out.drewN 1)).mono ?_
      rintro e w4 ⟨rfl,u4,s4,h4,h5⟩
      have h4b:At B w0 w4 p ((M.u_heap a1 a2 a3).u_un u4 s4) (star (stars (anParts p a0 (A2.u_fr fr))) FF):=h4
      have HS1b:(fun V:World=>V.cell? ⟨a0,4,none⟩=some (.slice (fr.a.map fun b=>⟨b,0,none⟩) n fr.c)) w4:=by
       have h9:=(h4b.an_c 4).1
       rw[←HFN.out]
       exact h9
      have ht4:=h4b.at_fr
      rw[show (A2.u_fr fr).fr.xs.length=n from HFN.out] at ht4
      have HT4:=Lib.hid ht4
      have HL4:=Lib.hid h4b.lastN
      have HS5:=Lib.hid (show MM.sv ((M.u_heap a1 a2 a3).u_un u4 s4)=(SM.unitGo N (MM.sv ((M.u_heap a1 a2 a3).u_un u st)) v).1 from h5)
      clear h4 h4b h5 ht4 HC
      refine hK _ _ HS1b ?_
      clear hK K
      try simp only[Act.put,List.setIfInBounds_toArray,List.set_cons_zero,List.set_cons_succ]
      refine E_onlyL (i:=9) (by kernel_rfl) rfl (fun K hK=>?_)
      go_simp
      refine hK _ _ ((World.cell?_alloc_some w4 ⟨a0,4,none⟩ (Obj.cells #[Value.int IntKind.i64 x] 3) (by rw[HS1b];rfl)).trans HS1b) ?_
      clear hK K
      try simp only[Act.put,List.setIfInBounds_toArray,List.set_cons_zero,List.set_cons_succ]
      refine E_onlyL (i:=10) (by kernel_rfl) rfl (fun K hK=>?_)
      refine step_append1 (by rfl) _ _ 27 3 (.int .i64 0) 8 (by rfl) Tryz.underlying27 Tryz.infoIntS rfl (HT4.out.alloc _) (by rfl) w4.heap.size (.int .i64 x) (by rfl) (cell_new w4 _ _) rfl (by omega) (by simp only[maxLen];omega) ?_
      intro b' c' w5 hs _
      obtain⟨⟨k5,k6⟩,k7⟩:=At.apush_fr (M:=(M.u_heap a1 a2 a3).u_un u4 s4) (A:=A2.u_fr fr) (x:=x) HL4.out HFN.out hs
      have HS2:(fun V:World=>V.cell? ⟨a0,4,none⟩=some (.slice (fr.a.map fun b=>⟨b,0,none⟩) n fr.c)) w5:=k5
      have H7:=Lib.hid k7
      clear hs k7
      refine hK _ _ HS2 ?_
      clear hK K
      try simp only[Act.put,List.setIfInBounds_toArray,List.set_cons_zero,List.set_cons_succ]
      refine E_onlyL (i:=11) (by kernel_rfl) rfl (fun K hK=>?_)
      go_simp
      refine hK _ _ (HS2) ?_
      clear hK K
      try simp only[Act.put,List.setIfInBounds_toArray,List.set_cons_zero,List.set_cons_succ]
      refine E_onlyL (i:=12) (by kernel_rfl) rfl (fun K hK=>?_)
      go_simp
      refine hK _ _ (HS2) ?_
      clear hK K
      try simp only[Act.put,List.setIfInBounds_toArray,List.set_cons_zero,List.set_cons_succ]
      refine E_onlyL (i:=13) (by kernel_rfl) rfl (fun K hK=>?_)
      go_simp
      refine hK _ _ (HS2) ?_
      clear hK K
      try simp only[Act.put,List.setIfInBounds_toArray,List.set_cons_zero,List.set_cons_succ]
      refine E_lastL (by kernel_rfl) rfl (by kernel_rfl) (fun K hK=>?_)
      go_simp
      refine hK _ _ ?_
      clear hK K
      clear HS0 HS1b HS2 c2 k3 k5 k6
      go_wp2
      go_roundg (nz-(k+1))
      case measure=>have:=hg.out;omega
      case rel=>exact⟨k+1,n+1,⟨some b',c',fr.xs++[x]⟩,u4,s4,by go_num,by omega,by omega,Lib.hid (by simp[HFN.out]),rfl,H7.out,Lib.hid (by rw[HS5.out];exact HUT.out.trans HTO.out),Lib.hid (by rw[HS5.out];exact HE2.out)⟩
     ·obtain rfl:k=nz:=by omega
      have e2:decide ((k:Int)<(k:Int))=false:=by simp
      have hR:Q=(MM.sv ((M.u_heap a1 a2 a3).u_un u st),fr.xs):=by rw[←HE.out,List.drop_of_length_le (by rw[HNZ.out];exact Nat.le_refl _)];rfl
      have HR:=Lib.hid hR
      clear hR HE hg
      obtain⟨A3,hA3⟩:∃ A3,A2.u_fr fr=A3:=⟨_,rfl⟩
      obtain⟨M3,hM3⟩:∃ M3,(M.u_heap a1 a2 a3).u_un u st=M3:=⟨_,rfl⟩
      rw[hA3,hM3] at H6
      have HB3:=Lib.hid (show A3.lits.a=some bl by rw[←hA3];exact HB2.out)
      have HN3:=Lib.hid (show A3.lits.xs.length=nl by rw[←hA3];exact HNL.out)
      have HLEV3:=Lib.hid (show A3.lev=0 by rw[←hA3];exact HLEV.out)
      have HM3:=Lib.hid hM3
      have HA3:=Lib.hid hA3
      have HMV3:=Lib.hid (show M3.level.xs.length=N∧M3.level.xs=M.level.xs by rw[←hM3];exact⟨by show M.level.xs.length=N;rw[←HNV.out];exact HOK.out.sz.level,rfl⟩)
      have HLV3:=Lib.hid (show ∀ x∈A3.lits.xs,x/2<N by rw[←hA3];exact HLV2.out)
      have k9:=(H6.out.an_c 3).1
      simp only[cellsA,List.getElem?_cons_succ,List.getElem?_cons_zero] at k9
      rw[show A3.lits.v=.slice (some ⟨bl,0,none⟩) nl A3.lits.c by unfold Fl.v;rw[HB3.out,HN3.out];rfl] at k9
      obtain⟨cl,hcl⟩:∃ c,A3.lits.c=c:=⟨_,rfl⟩
      have hclb:nl≤cl:=by
       have h9:=H6.out.at_lits
       have h8:=h9.sat.sl_facts.2.1
       rw[HN3.out,hcl] at h8
       exact h8
      rw[hcl] at k9
      have HCL:=Lib.hid hcl
      have u0:(1:Int)≤(nl:Int):=by omega
      have u1:(nl:Int)≤(cl:Int):=by omega
      clear hA3 hM3 hcl
      obtain⟨n1,rfl⟩:∃ n1,nl=n1+1:=⟨nl-1,by omega⟩
      go_upto_region 19 with fail
      go_cut [139,140,141] (fun s139 s140 s141 wx=>wx=wr∧∃ ad cc,s139=.slice ad n1 cc∧s140=.int .i64 n1∧s141=.int .i64 0∧(n1=0∨ad=some ⟨bl,1,none⟩))
      case first =>
       by_cases hc1:cl=1
       ·go_wp2_with fail
        go_meet
        exact⟨rfl,_,_,rfl,rfl,rfl,.inl (by omega)⟩
       ·go_wp2_with fail
        go_meet
        exact⟨rfl,_,_,rfl,rfl,rfl,.inr rfl⟩
      case rest =>
       obtain⟨rfl,ad,cc,rfl,rfl,rfl,had⟩:=hcut
       obtain⟨T,hT⟩:∃ T,SM.topGo (MM.sv M3) n1 A3.lits.xs 0 0=T:=⟨_,rfl⟩
       have hLE:M.sv.learn bad=(MM.sv M3,T.1,A3.fr.xs,T.2):=by
        have h9:M.sv.learn bad=(((learn1 M.sv bad).1.unitAll (learn1 M.sv bad).2.zero (learn1 M.sv bad).2.fr).1,(((learn1 M.sv bad).1.unitAll (learn1 M.sv bad).2.zero (learn1 M.sv bad).2.fr).1.topGo ((learn1 M.sv bad).2.lits.length-1) (learn1 M.sv bad).2.lits 0 0).1,((learn1 M.sv bad).1.unitAll (learn1 M.sv bad).2.zero (learn1 M.sv bad).2.fr).2,(((learn1 M.sv bad).1.unitAll (learn1 M.sv bad).2.zero (learn1 M.sv bad).2.fr).1.topGo ((learn1 M.sv bad).2.lits.length-1) (learn1 M.sv bad).2.lits 0 0).2):=rfl
        rw[h9,HL1.out,←HL1b.out]
        dsimp only
        rw[HS1.out,show A2.am.zero=A2.zero.xs from rfl,show A2.am.fr=A2.fr.xs from rfl,HQ.out,HR.out,HM3.out]
        dsimp only
        rw[show A2.am.lits=A3.lits.xs by rw[←HA3.out];rfl,HN3.out,show n1+1-1=n1 from rfl,hT]
        rw[show A3.fr.xs=fr.xs by rw[←HA3.out]]
       have hA3e:(A3.u_lits ⟨A3.lits.a,A3.lits.c,A3.lits.xs⟩).u_lev 0=A3:=by
        have h9:=HLEV3.out
        rcases A3 with ⟨x1,x2,x3,x4,x5⟩
        simp only at h9
        subst h9
        rfl
       have HLE:=Lib.hid hLE
       have HTT:=Lib.hid hT
       have HA3E:=Lib.hid hA3e
       clear hLE hT hA3e k9
       go_wp2
       go_loopg [141] n1 (fun g s141 wx=>∃ (k h:Nat) (cs:List Nat),s141=.int .i64 k∧k≤n1∧Hid (cs.length=n1+1)∧Hid (g=n1-k) ∧
        Hid (At B w0 wx p M3 (star (stars (anParts p a0 ((A3.u_lits ⟨A3.lits.a,A3.lits.c,cs⟩).u_lev h))) FF))∧Hid (∀ x∈cs,x/2<N)∧Hid (SM.topGo (MM.sv M3) (n1-k) cs k h=T))
       case atStart=>exact⟨0,0,A3.lits.xs,rfl,Nat.zero_le _,HN3.out,rfl,Lib.hid (by rw[HA3E.out];exact H6.out),HLV3.out,HTT.out⟩
       case round =>
        clear H6
        obtain⟨k,hh,cs,rfl,hkn,HCN,hg,H6,HCV,HE⟩:=hrel
        by_cases hkl:k<n1
        ·have e2:decide ((k:Int)<(n1:Int))=true:=by simp;omega
         obtain rfl:ad=some ⟨bl,1,none⟩:=by
          rcases had with h | h
          ·omega
          ·exact h
         obtain⟨y,hy⟩:∃ y,gn cs (k+1)=y:=⟨_,rfl⟩
         have hkx:k+1<cs.length:=by rw[HCN.out];omega
         have hb4:((A3.u_lits ⟨A3.lits.a,A3.lits.c,cs⟩).u_lev hh).lits.a=some bl:=HB3.out
         obtain⟨k1,_⟩:=H6.out.ar_lits hb4 (i:=k+1) (x:=y) (by rw[←hy];exact gn_some _ _ hkx)
         simp only[vL] at k1
         have k1b:wr.cell? ⟨bl,1+k,none⟩=some (.int .u32 y):=by rw[Nat.add_comm];exact k1
         have hyv:y/2<N:=HCV.out y (by rw[←hy];exact gn_mem _ _ hkx)
         have hy6:y<1000000:=by omega
         have HVV:=Lib.hid (fun V=>v_any y V hy6)
         obtain⟨q,hq⟩:∃ q,y/2=q:=⟨_,rfl⟩
         obtain⟨lv,hlev⟩:∃ lv,gn M.level.xs q=lv:=⟨_,rfl⟩
         obtain⟨bv,hbv⟩:=H6.out.b_level (by rw[HMV3.out.1];omega)
         rw[hq] at HVV hyv
         obtain⟨d1,_⟩:=H6.out.r_level hbv (i:=q) (x:=lv) (by rw[HMV3.out.2,←hlev];exact gn_some _ _ (by rw[←HMV3.out.2,HMV3.out.1];exact hyv))
         simp only[vN] at d1
         have d2:=H6.out.c_level
         rw[hbv,HMV3.out.1] at d2
         simp only[Option.map_some] at d2
         have k5:=(H6.out.an_c 5).1
         simp only[cellsA,List.getElem?_cons_succ,List.getElem?_cons_zero,vN] at k5
         have hE:=HE.out
         rw[show n1-k=(n1-(k+1))+1 by omega,SM.topGo,hy,hq,show gn (MM.sv M3).level q=lv by show gn M3.level.xs q=lv;rw[HMV3.out.2,hlev]] at hE
         have HE2:=Lib.hid hE
         have HY:=Lib.hid hy
         have q0:(0:Int)≤(q:Int):=by omega
         have q9:(q:Int)<(N:Int):=by omega
         have p0:(0:Int)≤(k:Int):=by omega
         have p1:(k:Int)<(n1:Int):=by omega
         clear hE hy hq hlev hbv HE hb4
         go_upto_region 22 with fail
         go_quiet ((go_at_call 68;exact quietE HVV.out _))
         revert nq
         intro nq1
         have H7:=Lib.hid (H6.out.drewN nq1)
         have k5b:(wr.drewN nq1).cell? ⟨a0,5,none⟩=some (.int .i64 hh):=k5
         clear k5 k1 k1b d1 d2 H6
         revert H7 k5b
         generalize wr.drewN nq1=w8
         intro H7 k5b
         by_cases hlt:hh<lv
         ·have e5:decide ((hh:Int)<(lv:Int))=true:=by simp;omega
          have hE:=HE2.out
          rw[if_pos hlt] at hE
          have HE3:=Lib.hid hE
          have f5:=(H7.out.an_c 5).2
          have H8:=Lib.hid (H7.out.put_lev lv)
          clear hE
          go_upto_region 25 with fail
          clear f5 k5b
          have H8b:=Lib.hid (show At B w0 (w8.setCell ⟨a0,5,none⟩ (.int .i64 lv)) p M3 (star (stars (anParts p a0 ((A3.u_lits ⟨A3.lits.a,A3.lits.c,cs⟩).u_lev lv))) FF) from H8.out)
          clear H8 H7
          revert H8b
          generalize w8.setCell ⟨a0,5,none⟩ (.int .i64 lv)=w9
          intro H8
          have hb4:((A3.u_lits ⟨A3.lits.a,A3.lits.c,cs⟩).u_lev lv).lits.a=some bl:=HB3.out
          have k9:=(H8.out.an_c 3).1
          simp only[cellsA,List.getElem?_cons_succ,List.getElem?_cons_zero] at k9
          rw[show ((A3.u_lits ⟨A3.lits.a,A3.lits.c,cs⟩).u_lev lv).lits.v=.slice (some ⟨bl,0,none⟩) (n1+1) A3.lits.c by unfold Fl.v;rw[show ((A3.u_lits ⟨A3.lits.a,A3.lits.c,cs⟩).u_lev lv).lits.a=some bl from HB3.out,show ((A3.u_lits ⟨A3.lits.a,A3.lits.c,cs⟩).u_lev lv).lits.xs.length=n1+1 from HCN.out];rfl] at k9
          obtain⟨y1,hy1⟩:∃ y,gn cs 1=y:=⟨_,rfl⟩
          obtain⟨k2,f2⟩:=H8.out.ar_lits hb4 (i:=1) (x:=y1) (by rw[←hy1];exact gn_some _ _ (by rw[HCN.out];omega))
          obtain⟨k3,f3⟩:=H8.out.ar_lits hb4 (i:=k+1) (x:=y) (by rw[←HY.out];exact gn_some _ _ hkx)
          simp only[vL] at k2 k3
          have nab:¬ bl=a0:=by
           have h9:=H8.out.at_lits
           rw[show ((A3.u_lits ⟨A3.lits.a,A3.lits.c,cs⟩).u_lev lv).lits.a=some bl from HB3.out] at h9
           obtain⟨G,hG⟩:=H8.out.an.two (i:=0) (j:=3) (P:=pt a0 143 (cellsA p ((A3.u_lits ⟨A3.lits.a,A3.lits.c,cs⟩).u_lev lv))) (Q:=((A3.u_lits ⟨A3.lits.a,A3.lits.c,cs⟩).u_lev lv).lits.hp 98 vL) rfl rfl (by decide)
           unfold Fl.hp at hG
           rw[show ((A3.u_lits ⟨A3.lits.a,A3.lits.c,cs⟩).u_lev lv).lits.a=some bl from HB3.out] at hG
           exact fun e=>hG.sat.pt_sl_ne e.symm
          have h10:=((H8.out.aset_lits hb4 (i:=1) (by show 1<cs.length;omega) y).aset_lits (A:=((A3.u_lits ⟨A3.lits.a,A3.lits.c,cs⟩).u_lev lv).u_lits ⟨A3.lits.a,A3.lits.c,cs.set 1 y⟩) hb4 (i:=k+1) (by show k+1<(cs.set 1 y).length;rw[List.length_set];exact hkx) y1).drewN 1
          have H10:=Lib.hid (show At B w0 ((w9.setCell ⟨bl,1,none⟩ (.int .u32 y)).setCell ⟨bl,k+1,none⟩ (.int .u32 y1)).drew p M3 (star (stars (anParts p a0 ((A3.u_lits ⟨A3.lits.a,A3.lits.c,(cs.set 1 y).set (k+1) y1⟩).u_lev lv))) FF) from h10)
          have i1:((k:Int)+1)<((n1+1:Nat):Int):=by omega
          have i2:(1:Int)<((n1+1:Nat):Int):=by omega
          have hsw:SM.swapN cs 1 (k+1)=(cs.set 1 y).set (k+1) y1:=by unfold SM.swapN;rw[HY.out,hy1]
          have HSW:=Lib.hid hsw
          have HCV2:=Lib.hid (show ∀ x∈(cs.set 1 y).set (k+1) y1,x/2<N from fun x hx=>by
           rcases List.mem_or_eq_of_mem_set hx with h1 | h1
           ·rcases List.mem_or_eq_of_mem_set h1 with h2 | h2
            ·exact HCV.out x h2
            ·rw[h2,←HY.out];exact HCV.out _ (gn_mem _ _ hkx)
           ·rw[h1,←hy1];exact HCV.out _ (gn_mem _ _ (by omega)))
          have HY1:=Lib.hid hy1
          clear h10 hb4 hsw hy1 hkx
          by_cases hk0:k=0
          ·subst hk0
           obtain rfl:y1=y:=HY1.out.symm.trans HY.out
           go_region
           go_wp2
           go_roundg (n1-(0+1))
           case measure=>have:=hg.out;omega
           case rel=>exact⟨0+1,lv,(cs.set 1 y1).set (0+1) y1,by go_num,by omega,Lib.hid (by rw[List.length_set,List.length_set];exact HCN.out),rfl,H10.out,HCV2.out,Lib.hid (by rw[←HSW.out];exact HE3.out)⟩
          ·have hk1:¬ k+1=1:=by omega
           have hk2:¬ (1:Nat)=k+1:=by omega
           go_region
           go_wp2
           go_roundg (n1-(k+1))
           case measure=>have:=hg.out;omega
           case rel=>exact⟨k+1,lv,(cs.set 1 y).set (k+1) y1,by go_num,by omega,Lib.hid (by rw[List.length_set,List.length_set];exact HCN.out),rfl,H10.out,HCV2.out,Lib.hid (by rw[←HSW.out];exact HE3.out)⟩
         ·have e5:decide ((hh:Int)<(lv:Int))=false:=by simp;omega
          go_wp2
          go_roundg (n1-(k+1))
          case measure=>have:=hg.out;omega
          case rel=>exact⟨k+1,hh,cs,by go_num,by omega,HCN.out,rfl,H7.out,HCV.out,Lib.hid (by have h9:=HE2.out;rw[if_neg hlt] at h9;exact h9)⟩
        ·obtain rfl:k=n1:=by omega
         have e2:decide ((k:Int)<(k:Int))=false:=by simp
         have hT:T=(cs,hh):=by have h9:=HE.out;rw[Nat.sub_self] at h9;exact h9.symm
         have HTC:=Lib.hid hT
         obtain⟨A5,hA5⟩:∃ A5,(A3.u_lits ⟨A3.lits.a,A3.lits.c,cs⟩).u_lev hh=A5:=⟨_,rfl⟩
         rw[hA5] at H6
         have h12:St B w0 wr (star (pt r0' 129 [.slice none 0 0,.slice none 0 0,.int .i64 0]) (star F (star (stars (anParts p a0 A5)) (star (stars (parts p M3)) emp)))):=by
          refine H6.out.st.conseq ?_
          rw[←HFF.out,star_emp]
          ac_rfl
         have k3:=(H6.out.an_c 3).1
         have k4:=(H6.out.an_c 4).1
         have k5:=(H6.out.an_c 5).1
         simp only[cellsA,List.getElem?_cons_succ,List.getElem?_cons_zero,vN] at k3 k4 k5
         obtain⟨y1,y2,y3,hv3⟩:∃ y1 y2 y3,A5.lits.v=.slice y1 y2 y3:=⟨_,_,_,rfl⟩
         obtain⟨y4,y5,y6,hv4⟩:∃ y4 y5 y6,A5.fr.v=.slice y4 y5 y6:=⟨_,_,_,rfl⟩
         rw[hv3] at k3
         rw[hv4] at k4
         have g0:=h12.pt_cell 0
         have g1:=h12.pt_cell 1
         have g2:=h12.pt_cell 2
         simp only[List.getElem?_cons_succ,List.getElem?_cons_zero] at g0 g1 g2
         have f0:=h12.pt_free 0
         have f1:=h12.pt_free 1
         have f2:=h12.pt_free 2
         have h13:=((h12.pt_set 0 (.slice y1 y2 y3)).pt_set 1 (.slice y4 y5 y6)).pt_set 2 (.int .i64 A5.lev)
         simp only[List.set_cons_succ,List.set_cons_zero] at h13
         have H13:=Lib.hid h13
         have HA5:=Lib.hid hA5
         have HV3:=Lib.hid hv3
         have HV4:=Lib.hid hv4
         clear h12 h13 hT hA5 hv3 hv4 HE hg
         go_wp2
         rw[Exit.noGoto_ret]
         revert H13
         generalize ((wr.setCell ⟨r0',0,none⟩ (.slice y1 y2 y3)).setCell ⟨r0',1,none⟩ (.slice y4 y5 y6)).setCell ⟨r0',2,none⟩ (.int .i64 A5.lev)=w20
         intro H13
         have j0:=H13.out.pt_cell 0
         have j1:=H13.out.pt_cell 1
         have j2:=H13.out.pt_cell 2
         simp only[List.getElem?_cons_succ,List.getElem?_cons_zero] at j0 j1 j2
         refine bodyPost_ret (results_cell1 rfl _ ⟨r0',0,none⟩ rfl _ _ (load_conflict r0' w20 y1 y4 y2 y5 y3 y6 A5.lev j0 j1 j2)) rfl ?_
         have hA6:A5.lits.xs=T.1∧A5.lev=T.2∧A5.fr.xs=A3.fr.xs:=by rw[HTC.out,←HA5.out];exact⟨rfl,rfl,rfl⟩
         have h14:At B w0 w20 p M3 (star (star (pt r0' 129 [.slice y1 y2 y3,.slice y4 y5 y6,.int .i64 A5.lev]) (star (pt a0 143 (cellsA p A5)) (star (A5.met.hp 4 vB) (A5.zero.hp 3 vN)))) (star (A5.lits.hp 98 vL) (star (A5.fr.hp 3 vI) F))):=by
          refine⟨H13.out.conseq ?_,by rw[←HM3.out];exact H.out.lastN⟩
          simp only[anParts,stars_cons,stars_nil,star_emp]
          ac_rfl
         refine⟨a1,a2,a3,u,st,A5.lits,A5.fr,?_,?_,?_,?_,?_⟩
         ·rw[HV3.out,HV4.out,HLE.out]
          dsimp only
          rw[hA6.2.1]
         ·rw[HM3.out];exact h14.dropF
         ·rw[HM3.out,HLE.out]
         ·rw[HLE.out];exact hA6.1
         ·rw[HLE.out];exact hA6.2.2
   ·have e7:decide ((o:Int)-1=0)=false:=by simp;omega
    obtain⟨o',rfl⟩:∃ o',o=o'+1:=⟨o-1,by omega⟩
    have e8:decide ((o':Int)=0)=false:=by simp;omega
    obtain⟨r,g1,g2,g3,g4,g5,g6,g7,g8⟩:=HLO3.out ho1
    have hge:=HGE3.out
    rw[if_neg ho1,show gi (MM.sv (M.u_heap a1 a2 a3)).reason q=(r:Int) from g1] at hge
    dsimp only at hge
    rw[Int.toNat_natCast] at hge
    have hrl:M.reason.xs.length=N:=by rw[←HNV.out];exact HOK.out.sz.reason
    obtain⟨br,hbr⟩:=H4.out.b_reason (by show 0<M.reason.xs.length;omega)
    obtain⟨d2,_⟩:=H4.out.r_reason hbr (i:=q) (x:=(r:Int)) (by rw[←g1];exact gi_map_eq _ _ (by show q<M.reason.xs.length;omega))
    simp only[vI] at d2
    have c2:=H4.out.c_reason
    rw[hbr,show (M.u_heap a1 a2 a3).reason.xs.length=N from hrl] at c2
    simp only[Option.map_some] at c2
    have hcll:(MM.sv (M.u_heap a1 a2 a3)).cls.length=M.cls.xs.length:=by show (M.cls.xs.map _).length=_;rw[List.length_map]
    rw[hcll] at g2
    obtain⟨⟨r2,rd2⟩,hi2⟩:∃ x,(M.u_heap a1 a2 a3).cls.xs[r]?=some x:=⟨M.cls.xs[r],by simp[g2]⟩
    obtain⟨_,o2⟩:=H4.out.o_cls HBC.out hi2
    have c3:=H4.out.c_cls
    rw[HBC.out,show (M.u_heap a1 a2 a3).cls.xs.length=nc from HNC.out] at c3
    simp only[Option.map_some] at c3
    obtain⟨_,q2⟩:=cl_of hi2
    obtain⟨nf,hnf⟩:∃ n,A'.fr.xs.length=n:=⟨_,rfl⟩
    have k7:=(H4.out.an_c 4).1
    simp only[cellsA,List.getElem?_cons_succ,List.getElem?_cons_zero] at k7
    rw[show A'.fr.v=.slice (A'.fr.a.map fun b=>⟨b,0,none⟩) nf A'.fr.c by unfold Fl.v;rw[hnf]] at k7
    have htf:=H4.out.at_fr
    rw[hnf] at htf
    have hnfb:nf≤1000000:=by rw[←hnf];exact g7
    have r0:(0:Int)≤(r:Int):=by omega
    have r1:(r:Int)<(nc:Int):=by rw[←HNC.out];omega
    rw[q2] at hge g8
    have HTF:=Lib.hid htf
    have HNF:=Lib.hid hnf
    have HGE4:=Lib.hid hge
    have HG8:=Lib.hid g8
    have HI2:=Lib.hid hi2
    have HGA:=Lib.hid (show r<M.cls.xs.length∧((MM.sv (M.u_heap a1 a2 a3)).cl r).length≤100000∧(∀ x∈(MM.sv (M.u_heap a1 a2 a3)).cl r,x/2<(MM.sv (M.u_heap a1 a2 a3)).value.length)∧A'.am.zero.length≤1000000∧A'.am.lits.length≤1000000 from⟨g2,g3,g4,g5,g6⟩)
    clear hge g1 g2 g3 g4 g5 g6 g7 g8 hbr hi2 hnf htf q2 hcll hrl HGE3 HLO3
    go_upto_region 11 with fail
    go_quiet ((go_at_call 68;exact quietE HVV.out _))
    revert nq
    intro nq2
    have H5:=Lib.hid (H4.out.drewN nq2)
    have HTF2:=Lib.hid (HTF.out.drewN nq2)
    have c3b:(w6.drewN nq2).cell? ⟨p,5,none⟩=some (Value.slice (some ⟨bc,0,none⟩) nc M.cls.c):=c3
    have o2b:(w6.drewN nq2).cell? ⟨bc,r*2+1,none⟩=some (Value.int .i64 rd2):=o2
    have k7b:(w6.drewN nq2).cell? ⟨a0,4,none⟩=some (Value.slice (A'.fr.a.map fun b=>⟨b,0,none⟩) nf A'.fr.c):=k7
    clear c2 d2 c3 o2 k7 HTF H4
    go_upto_region 12 with fail
    revert H5 HTF2 c3b o2b k7b
    generalize w6.drewN nq2=w7
    intro H5 HTF2 c3b o2b k7b
    refine wp_region_E 19 (fun V:World=>V.cell? ⟨a0,4,none⟩=some (Value.slice (A'.fr.a.map fun b=>⟨b,0,none⟩) nf A'.fr.c)∧V.cell? ⟨p,5,none⟩=some (Value.slice (some ⟨bc,0,none⟩) nc M.cls.c)∧V.cell? ⟨bc,r*2+1,none⟩=some (Value.int .i64 rd2)) (by kernel_rfl) ?_
    have HS0:(fun V:World=>V.cell? ⟨a0,4,none⟩=some (Value.slice (A'.fr.a.map fun b=>⟨b,0,none⟩) nf A'.fr.c)∧V.cell? ⟨p,5,none⟩=some (Value.slice (some ⟨bc,0,none⟩) nc M.cls.c)∧V.cell? ⟨bc,r*2+1,none⟩=some (Value.int .i64 rd2)) w7.drew:=⟨k7b,c3b,o2b⟩
    refine E_takeL (i:=0) (v:=?v9) rfl (by kernel_rfl) (by kernel_rfl) (by kernel_rfl) (by kernel_rfl) (fun _ _ _ h=>h) rfl ?hy9 HS0 ?_
    case hy9 =>
     intro V hSV
     try dsimp only at hSV
     first | (obtain⟨hSV1,hSV2,hSV3⟩:=hSV) | (obtain⟨hSV1,hSV2⟩:=hSV) | skip
     go_simp
     try with_reducible rfl
    try simp only[Act.put,List.setIfInBounds_toArray,List.set_cons_zero,List.set_cons_succ]
    refine E_takeL (i:=1) (v:=?v10) rfl (by kernel_rfl) (by kernel_rfl) (by kernel_rfl) (by kernel_rfl) (fun _ _ _ h=>h) rfl ?hy10 HS0 ?_
    case hy10 =>
     intro V hSV
     try dsimp only at hSV
     first | (obtain⟨hSV1,hSV2,hSV3⟩:=hSV) | (obtain⟨hSV1,hSV2⟩:=hSV) | skip
     go_simp
     try with_reducible rfl
    try simp only[Act.put,List.setIfInBounds_toArray,List.set_cons_zero,List.set_cons_succ]
    refine E_takeL (i:=2) (v:=?v11) rfl (by kernel_rfl) (by kernel_rfl) (by kernel_rfl) (by kernel_rfl) (fun _ _ _ h=>h) rfl ?hy11 HS0 ?_
    case hy11 =>
     intro V hSV
     try dsimp only at hSV
     first | (obtain⟨hSV1,hSV2,hSV3⟩:=hSV) | (obtain⟨hSV1,hSV2⟩:=hSV) | skip
     go_simp
     try with_reducible rfl
    try simp only[Act.put,List.setIfInBounds_toArray,List.set_cons_zero,List.set_cons_succ]
    refine E_takeL (i:=3) (v:=?v12) rfl (by kernel_rfl) (by kernel_rfl) (by kernel_rfl) (by kernel_rfl) (fun _ _ _ h=>h) rfl ?hy12 HS0 ?_
    case hy12 =>
     intro V hSV
     try dsimp only at hSV
     first | (obtain⟨hSV1,hSV2,hSV3⟩:=hSV) | (obtain⟨hSV1,hSV2⟩:=hSV) | skip
     go_simp
     try with_reducible rfl
    try simp only[Act.put,List.setIfInBounds_toArray,List.set_cons_zero,List.set_cons_succ]
    refine E_takeL (i:=4) (v:=?v13) rfl (by kernel_rfl) (by kernel_rfl) (by kernel_rfl) (by kernel_rfl) (fun _ _ _ h=>h) rfl ?hy13 HS0 ?_
    case hy13 =>
     intro V hSV
     try dsimp only at hSV
     first | (obtain⟨hSV1,hSV2,hSV3⟩:=hSV) | (obtain⟨hSV1,hSV2⟩:=hSV) | skip
     go_simp
     try with_reducible rfl
    try simp only[Act.put,List.setIfInBounds_toArray,List.set_cons_zero,List.set_cons_succ]
    refine E_takeL (i:=5) (v:=?v14) rfl (by kernel_rfl) (by kernel_rfl) (by kernel_rfl) (by kernel_rfl) (fun _ _ _ h=>h) rfl ?hy14 HS0 ?_
    case hy14 =>
     intro V hSV
     try dsimp only at hSV
     first | (obtain⟨hSV1,hSV2,hSV3⟩:=hSV) | (obtain⟨hSV1,hSV2⟩:=hSV) | skip
     go_simp
     try with_reducible rfl
    try simp only[Act.put,List.setIfInBounds_toArray,List.set_cons_zero,List.set_cons_succ]
    refine E_takeL (i:=6) (v:=?v15) rfl (by kernel_rfl) (by kernel_rfl) (by kernel_rfl) (by kernel_rfl) (fun _ _ _ h=>h) rfl ?hy15 HS0 ?_
    case hy15 =>
     intro V hSV
     try dsimp only at hSV
     first | (obtain⟨hSV1,hSV2,hSV3⟩:=hSV) | (obtain⟨hSV1,hSV2⟩:=hSV) | skip
     go_simp
     try with_reducible rfl
    try simp only[Act.put,List.setIfInBounds_toArray,List.set_cons_zero,List.set_cons_succ]
    refine E_takeL (i:=7) (v:=?v16) rfl (by kernel_rfl) (by kernel_rfl) (by kernel_rfl) (by kernel_rfl) (fun _ _ _ h=>h) rfl ?hy16 HS0 ?_
    case hy16 =>
     intro V hSV
     try dsimp only at hSV
     first | (obtain⟨hSV1,hSV2,hSV3⟩:=hSV) | (obtain⟨hSV1,hSV2⟩:=hSV) | skip
     go_simp
     try with_reducible rfl
    try simp only[Act.put,List.setIfInBounds_toArray,List.set_cons_zero,List.set_cons_succ]
    refine E_takeL (i:=8) (v:=?v17) rfl (by kernel_rfl) (by kernel_rfl) (by kernel_rfl) (by kernel_rfl) (fun _ _ _ h=>h) rfl ?hy17 HS0 ?_
    case hy17 =>
     intro V hSV
     try dsimp only at hSV
     first | (obtain⟨hSV1,hSV2,hSV3⟩:=hSV) | (obtain⟨hSV1,hSV2⟩:=hSV) | skip
     go_simp
     try with_reducible rfl
    try simp only[Act.put,List.setIfInBounds_toArray,List.set_cons_zero,List.set_cons_succ]
    refine E_takeL (i:=9) (v:=?v18) rfl (by kernel_rfl) (by kernel_rfl) (by kernel_rfl) (by kernel_rfl) (fun _ _ _ h=>h) rfl ?hy18 HS0 ?_
    case hy18 =>
     intro V hSV
     try dsimp only at hSV
     first | (obtain⟨hSV1,hSV2,hSV3⟩:=hSV) | (obtain⟨hSV1,hSV2⟩:=hSV) | skip
     go_simp
     try with_reducible rfl
    try simp only[Act.put,List.setIfInBounds_toArray,List.set_cons_zero,List.set_cons_succ]
    refine E_takeL (i:=10) (v:=?v19) rfl (by kernel_rfl) (by kernel_rfl) (by kernel_rfl) (by kernel_rfl) (fun _ _ _ h=>h) rfl ?hy19 HS0 ?_
    case hy19 =>
     intro V hSV
     try dsimp only at hSV
     first | (obtain⟨hSV1,hSV2,hSV3⟩:=hSV) | (obtain⟨hSV1,hSV2⟩:=hSV) | skip
     go_simp
     try with_reducible rfl
    try simp only[Act.put,List.setIfInBounds_toArray,List.set_cons_zero,List.set_cons_succ]
    refine E_takeL (i:=11) (v:=?v20) rfl (by kernel_rfl) (by kernel_rfl) (by kernel_rfl) (by kernel_rfl) (fun _ _ _ h=>h) rfl ?hy20 HS0 ?_
    case hy20 =>
     intro V hSV
     try dsimp only at hSV
     first | (obtain⟨hSV1,hSV2,hSV3⟩:=hSV) | (obtain⟨hSV1,hSV2⟩:=hSV) | skip
     go_simp
     try with_reducible rfl
    try simp only[Act.put,List.setIfInBounds_toArray,List.set_cons_zero,List.set_cons_succ]
    refine E_takeL (i:=12) (v:=?v21) rfl (by kernel_rfl) (by kernel_rfl) (by kernel_rfl) (by kernel_rfl) (fun _ _ _ h=>h) rfl ?hy21 HS0 ?_
    case hy21 =>
     intro V hSV
     try dsimp only at hSV
     first | (obtain⟨hSV1,hSV2,hSV3⟩:=hSV) | (obtain⟨hSV1,hSV2⟩:=hSV) | skip
     go_simp
     try with_reducible rfl
    try simp only[Act.put,List.setIfInBounds_toArray,List.set_cons_zero,List.set_cons_succ]
    refine E_takeL (i:=13) (v:=?v22) rfl (by kernel_rfl) (by kernel_rfl) (by kernel_rfl) (by kernel_rfl) (fun _ _ _ h=>h) rfl ?hy22 HS0 ?_
    case hy22 =>
     intro V hSV
     try dsimp only at hSV
     first | (obtain⟨hSV1,hSV2,hSV3⟩:=hSV) | (obtain⟨hSV1,hSV2⟩:=hSV) | skip
     go_simp
     try with_reducible rfl
    try simp only[Act.put,List.setIfInBounds_toArray,List.set_cons_zero,List.set_cons_succ]
    refine E_onlyL (i:=14) (by kernel_rfl) rfl (fun K hK=>?_)
    go_simp
    refine hK _ _ (⟨(World.cell?_alloc_some w7.drew _ (Obj.cells #[Value.int IntKind.i64 rd2] 3) (by rw[HS0.1];rfl)).trans HS0.1,(World.cell?_alloc_some w7.drew _ (Obj.cells #[Value.int IntKind.i64 rd2] 3) (by rw[HS0.2.1];rfl)).trans HS0.2.1,(World.cell?_alloc_some w7.drew _ (Obj.cells #[Value.int IntKind.i64 rd2] 3) (by rw[HS0.2.2];rfl)).trans HS0.2.2⟩) ?_
    clear hK K
    try simp only[Act.put,List.setIfInBounds_toArray,List.set_cons_zero,List.set_cons_succ]
    refine E_onlyL (i:=15) (by kernel_rfl) rfl (fun K hK=>?_)
    refine step_append1 (by rfl) _ _ 27 3 (.int .i64 0) 8 (by rfl) Tryz.underlying27 Tryz.infoIntS rfl (HTF2.out.drew.alloc _) (by rfl) w7.heap.size (.int .i64 rd2) (by rfl) (cell_new w7.drew _ _) rfl (by omega) (by simp only[maxLen];omega) ?_
    intro b' c' w8 hs _
    obtain⟨⟨k8,f8⟩,k9⟩:=At.apush_fr (M:=M.u_heap a1 a2 a3) (A:=A') (x:=rd2) H5.out.lastN HNF.out hs
    have hs2:At B w0 w8 p (M.u_heap a1 a2 a3) (star (sl (some b') (nf+1) c' 3 1 (A'.fr.xs.map vI++[vI rd2])) (star (stars ((anParts p a0 A').eraseIdx 4)) FF)):=⟨hs.conseq (by ac_rfl),H5.out.lastN⟩
    have c3c:=hs2.c_cls
    rw[HBC.out,show (M.u_heap a1 a2 a3).cls.xs.length=nc from HNC.out] at c3c
    simp only[Option.map_some] at c3c
    obtain⟨_,o2c⟩:=hs2.o_cls HBC.out HI2.out
    have HS2:(fun V:World=>V.cell? ⟨a0,4,none⟩=some (Value.slice (A'.fr.a.map fun b=>⟨b,0,none⟩) nf A'.fr.c)∧V.cell? ⟨p,5,none⟩=some (Value.slice (some ⟨bc,0,none⟩) nc M.cls.c)∧V.cell? ⟨bc,r*2+1,none⟩=some (Value.int .i64 rd2)) w8:=⟨k8,c3c,o2c⟩
    have H9:=Lib.hid k9
    clear hs hs2 k9
    refine hK _ _ HS2 ?_
    clear hK K
    try simp only[Act.put,List.setIfInBounds_toArray,List.set_cons_zero,List.set_cons_succ]
    refine E_onlyL (i:=16) (by kernel_rfl) rfl (fun K hK=>?_)
    go_simp
    refine hK _ _ (HS2) ?_
    clear hK K
    try simp only[Act.put,List.setIfInBounds_toArray,List.set_cons_zero,List.set_cons_succ]
    refine E_onlyL (i:=17) (by kernel_rfl) rfl (fun K hK=>?_)
    go_simp
    refine hK _ _ (HS2) ?_
    clear hK K
    try simp only[Act.put,List.setIfInBounds_toArray,List.set_cons_zero,List.set_cons_succ]
    refine E_onlyL (i:=18) (by kernel_rfl) rfl (fun K hK=>?_)
    go_simp
    refine hK _ _ (HS2) ?_
    clear hK K
    try simp only[Act.put,List.setIfInBounds_toArray,List.set_cons_zero,List.set_cons_succ]
    refine E_lastL (by kernel_rfl) rfl (by kernel_rfl) (fun K hK=>?_)
    go_simp
    refine hK _ _ ?_
    clear hK K
    clear HS0 HS2 c3b o2b k7b c3c o2c k8 f8 HTF2 H5
    revert H9
    generalize w8.setCell ⟨a0,4,none⟩ (.slice (some ⟨b',0,none⟩) (nf+1) c')=w9
    intro H9
    have hmt:=meets_any r l H9.out HV.out (by show M.level.xs.length=M.value.xs.length;rw[HNV.out,←HNV.out];exact HOK.out.sz.level) (by rw[show (M.u_heap a1 a2 a3).value.xs.length=N from HNV.out];exact HA.out.1) HGA.out.1 HGA.out.2.2.1 HGA.out.2.1 HGA.out.2.2.2.1 HGA.out.2.2.2.2
    have hinv:=meetsGo_inv l ((MM.sv (M.u_heap a1 a2 a3)).cl r) (A:=(A'.u_fr ⟨some b',c',A'.fr.xs++[rd2]⟩).am) (n:=0) HV.out HGA.out.2.2.1
    change HInv (SM.meets (MM.sv (M.u_heap a1 a2 a3)) (A'.u_fr ⟨some b',c',A'.fr.xs++[rd2]⟩).am r l).1∧(SM.meets (MM.sv (M.u_heap a1 a2 a3)) (A'.u_fr ⟨some b',c',A'.fr.xs++[rd2]⟩).am r l).1.value=_∧(SM.meets (MM.sv (M.u_heap a1 a2 a3)) (A'.u_fr ⟨some b',c',A'.fr.xs++[rd2]⟩).am r l).2.1.met.length=_∧(SM.meets (MM.sv (M.u_heap a1 a2 a3)) (A'.u_fr ⟨some b',c',A'.fr.xs++[rd2]⟩).am r l).2.2≤_∧(SM.meets (MM.sv (M.u_heap a1 a2 a3)) (A'.u_fr ⟨some b',c',A'.fr.xs++[rd2]⟩).am r l).2.1.fr=_ at hinv
    have hg8:=HG8.out
    have hge:=HGE4.out
    change learnOk i (SM.meets (MM.sv (M.u_heap a1 a2 a3)) (A'.u_fr ⟨some b',c',A'.fr.xs++[rd2]⟩).am r l).1 (SM.meets (MM.sv (M.u_heap a1 a2 a3)) (A'.u_fr ⟨some b',c',A'.fr.xs++[rd2]⟩).am r l).2.1 (o'+(SM.meets (MM.sv (M.u_heap a1 a2 a3)) (A'.u_fr ⟨some b',c',A'.fr.xs++[rd2]⟩).am r l).2.2) at hg8
    change SM.learnGo i (SM.meets (MM.sv (M.u_heap a1 a2 a3)) (A'.u_fr ⟨some b',c',A'.fr.xs++[rd2]⟩).am r l).1 (SM.meets (MM.sv (M.u_heap a1 a2 a3)) (A'.u_fr ⟨some b',c',A'.fr.xs++[rd2]⟩).am r l).2.1 (o'+(SM.meets (MM.sv (M.u_heap a1 a2 a3)) (A'.u_fr ⟨some b',c',A'.fr.xs++[rd2]⟩).am r l).2.2)=L1 at hge
    obtain⟨R,hR⟩:∃ R,SM.meets (MM.sv (M.u_heap a1 a2 a3)) (A'.u_fr ⟨some b',c',A'.fr.xs++[rd2]⟩).am r l=R:=⟨_,rfl⟩
    rw[hR] at hmt hinv hg8 hge
    obtain⟨y,hy⟩:∃ y,R.2.2=y:=⟨_,rfl⟩
    rw[hy] at hmt hinv hg8 hge
    obtain⟨j,rfl⟩:∃ j,i=j+1:=by
     cases i with
     | zero=>exact hg8.elim
     | succ j=>exact⟨j,rfl⟩
    have hyb:y≤100000:=by have:=hinv.2.2.2.1;have:=HGA.out.2.1;omega
    have HINV:=Lib.hid hinv
    have HG9:=Lib.hid hg8
    have HGE9:=Lib.hid hge
    have HMT:=Lib.hid hmt
    clear hmt hinv hg8 hge hR hy HGE4 HG8
    go_wp2_with fail
    refine HMT.out.mono ?_
    rintro e w10 ⟨rfl,x1,x2,x3,A4,h10,h11,h12,h13⟩
    have H10:=Lib.hid (show At B w0 w10 p (M.u_heap x1 x2 x3) (star (stars (anParts p a0 A4)) FF) from h10)
    have HS10:=Lib.hid (show MM.sv (M.u_heap x1 x2 x3)=R.1 from h11)
    have HA10:=Lib.hid h12
    have HL10:=Lib.hid (show A4.lev=0 from h13.trans HA.out.2)
    clear h10 h11 h12 h13 HMT
    go_wp2
    go_roundg j
    case measure=>have:=hg.out;omega
    case rel=>exact⟨j,o'+y,x1,x2,x3,A4,by go_num,by go_num,by omega,by omega,rfl,H10.out,Lib.hid (by rw[HS10.out];exact HINV.out.1),⟨by have h9:=HINV.out.2.2.1;rw[←HA10.out] at h9;exact h9.trans HA.out.1,HL10.out⟩,Lib.hid (by rw[HS10.out,HA10.out];exact HG9.out),Lib.hid (by rw[HS10.out,HA10.out];exact HGE9.out)⟩
end
end Go.Proofs.YthbbmdnfkkffjaaGreat

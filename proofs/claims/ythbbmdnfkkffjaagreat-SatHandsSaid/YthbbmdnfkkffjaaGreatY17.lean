/-
  Parts of the proof, joined by program: Lrn.
-/
import Derived.Test.YthbbmdnfkkffjaaGreatY15
import Derived.Test.YthbbmdnfkkffjaaGreatY16
import Derived.Test.YthbbmdnfkkffjaaGreatY01
import Derived.WalkMore
import Derived.Deep.CutBlock
import Derived.Lib.Hide
set_option maxHeartbeats 8000000
set_option maxRecDepth 100000
namespace Go.Proofs.YthbbmdnfkkffjaaGreat
open Go.RowKit Go.Proofs.aC Go.Proofs.au Go.Proofs.aA
def jC:Nat→SM→AM→Nat→Prop
 | 0,_,_,_=>False
 | i+1,S,A,o =>
  if gB A.met (gn S.trail i/2)=true then
   0<o∧(o≠1→∃ r:Nat,gi S.reason (gn S.trail i/2)=r∧r<S.cls.length∧(S.cl r).length≤100000∧(∀ x∈S.cl r,x/2<S.value.length)∧A.zero.length≤1000000∧A.lits.length≤1000000∧A.fr.length≤1000000 ∧
    jC i (S.meets { A with fr:=A.fr++[S.id r] } r (gn S.trail i)).1 (S.meets { A with fr:=A.fr++[S.id r] } r (gn S.trail i)).2.1 (o-1+(S.meets { A with fr:=A.fr++[S.id r] } r (gn S.trail i)).2.2))
  else jC i S A o
def dD (S:SM) (bad:Nat):SM×AM×Nat:=S.meets { met:=List.replicate S.value.length false,zero:=[],lits:=[0],fr:=[S.id bad] } bad 0
def aV (S:SM) (bad:Nat):SM×AM:=SM.dY (dD S bad).1.trail.length (dD S bad).1 (dD S bad).2.1 (dD S bad).2.2
structure aec (S:SM) (bad:Nat) (Z:Nat→Prop) (rk:Nat→Nat):Prop where
 h:bG S
 sz:Sz S
 lt:bad<S.cls.length
 n:S.cls.length≤1000000
 len:(S.cl bad).length≤100000
 vars:∀ x∈S.cl bad,x/2<S.value.length
 tr:∀ x∈S.trail,x/2<S.value.length
 trl:S.trail.length≤900000
 ok:jC (dD S bad).1.trail.length (dD S bad).1 (dD S bad).2.1 (dD S bad).2.2
 un:zG S Z rk
 rk:∀ v,Z v→rk v<S.value.length
 zero:∀ v∈(aV S bad).2.zero,Z v
 zl:(aV S bad).2.zero.length≤200000
 frl:(aV S bad).2.fr.length≤1000000
 ll:(aV S bad).2.lits.length≤200000
 l0:0<(aV S bad).2.lits.length
 lits:∀ x∈(aV S bad).2.lits,x/2<S.value.length
section
variable {B:Nat} {w0 w:World} {p:Nat} {M:MM} {F:HP}
theorem U0 {Z:Nat→Prop} {rk:Nat→Nat} (bad:Nat) (h:At B w0 w p M F) (hok:aec M.sv bad Z rk) :
  Calls Tryz.prog 94 #[.pointer (some ⟨p,0,none⟩),.int .i64 bad] w fun e w' =>
   ∃ (a b c:Fl Nat) (u:Fl Int) (st:Fl (Fl Int)) (li:Fl Nat) (fr:Fl Int),e=.returned (.agg #[li.v,fr.v,.int .i64 ((M.sv.learn bad).2.2.2:Nat)]) ∧
    At B w0 w' p ((M.aP a b c).dJ u st) (star (li.hp 98 vL) (star (fr.hp 3 vI) F))∧MM.sv ((M.aP a b c).dJ u st)=(M.sv.learn bad).1∧li.xs=(M.sv.learn bad).2.1∧fr.xs=(M.sv.learn bad).2.2.1:=by
 have nQ:M.sv.cls.length=M.cls.xs.length:=by show (M.cls.xs.map _).length=_;rw[List.length_map]
 have hlt:bad<M.cls.xs.length:=by rw[←nQ];exact hok.lt
 obtain⟨⟨rr,rd⟩,hi⟩:∃ x,M.cls.xs[bad]?=some x:=⟨M.cls.xs[bad],by simp[hlt]⟩;obtain⟨bc,hbc⟩:=h.IY (by omega);obtain⟨o1,o2⟩:=h.wI hbc hi;have c3:=h.uz;obtain⟨nc,hnc⟩:∃ n,M.cls.xs.length=n:=⟨_,rfl⟩;rw[hbc,hnc] at c3;simp only[Option.map_some] at c3;obtain⟨q1,q2⟩:=Cq hi;have r0:(0:Int)≤(bad:Int):=by omega
 have r1:(bad:Int)<(nc:Int):=by omega
 obtain⟨N,hN⟩:∃ N,M.value.xs.length=N:=⟨_,rfl⟩;have hsm:N≤100000:=by rw[←hN];exact hok.h.hb.small
 have c4:=h.kI;obtain⟨va,hva⟩:∃ va,(M.value.a.map fun b=>(⟨b,0,none⟩:Addr))=va:=⟨_,rfl⟩;rw[hN,hva] at c4;obtain⟨r0',hr0⟩:∃ r,w.heap.size=r:=⟨_,rfl⟩;have H:=zH h;have fA:=zH hok;have HI:=zH hi;have Wj:=zH q2;have DI:=zH hN;have HBC:=zH hbc;have Tt:=zH hnc;have h0:=h.box #[.slice none 0 0,.slice none 0 0,.int .i64 0] 129;rw[hr0] at h0;have al:=fun (o:Obj) (a:Addr) (v:Value) (k:w.cell? a=some v)=>(World.cell?_alloc_some (w:=w) a o (by rw[k];rfl)).trans k;clear h hok hi q1 q2 hN hbc hnc hlt nQ hva
 go_enter Tryz.func94,Tryz.ntmps94
 go_upto_region 1 with fail
 have e4:=al (Obj.cells #[.slice none 0 0,.slice none 0 0,.int .i64 0] 129) _ _ c4;have e3:=al (Obj.cells #[.slice none 0 0,.slice none 0 0,.int .i64 0] 129) _ _ c3;have e2:=al (Obj.cells #[.slice none 0 0,.slice none 0 0,.int .i64 0] 129) _ _ o2
 try rw[hr0]
 clear al c4 c3 o2 o1 hr0;revert h0 e4 e3 e2;generalize w.alloc (Obj.cells #[.slice none 0 0,.slice none 0 0,.int .i64 0] 129)=w1;intro h0 e4 e3 e2;have HM:=zH h0.st;clear h0
 go_step3
 go_upto_region 2 with (at_make;refine lX rfl _ _ 84 4 (.bool false) 1 rfl Tryz.underlying84 Tryz.qO rfl N _ rfl rfl rfl (by omega) (by unfold maxLen;omega) (by omega) HM.out ?_;intro mb w2 h2;have H2:=zH h2;clear h2)
 have h3:At B w0 (w2.alloc (Obj.cells #[.pointer (some ⟨p,0,none⟩),.slice (some ⟨mb,0,none⟩) N N,.slice none 0 0,.slice none 0 0,.slice none 0 0,.int .i64 0] 143)) p M (star (stars (aK p w2.heap.size ⟨⟨some mb,N,List.replicate N false⟩,⟨none,0,[]⟩,⟨none,0,[]⟩,⟨none,0,[]⟩,0⟩)) (star (pt r0' 129 [.slice none 0 0,.slice none 0 0,.int .i64 0]) F)):=by
  have h4:=H2.out.iC #[.pointer (some ⟨p,0,none⟩),.slice (some ⟨mb,0,none⟩) N N,.slice none 0 0,.slice none 0 0,.slice none 0 0,.int .i64 0] 143;refine At.Cr (h4.aB ?_) H.out.bA;simp only[aK,dK,Fl.hp,Fl.v,List.length_replicate,List.map_replicate,List.length_nil,List.map_nil,gK,kW,j6,aQ,Option.map_some,Option.map_none,vB,vN];show star (pt w2.heap.size 143 [.pointer (some ⟨p,0,none⟩),.slice (some ⟨mb,0,none⟩) N N,.slice none 0 0,.slice none 0 0,.slice none 0 0,.int .i64 0]) _=_
  ac_rfl
 obtain⟨a0,ha0⟩:∃ a0,w2.heap.size=a0:=⟨_,rfl⟩;have e4:=h3.uz;rw[HBC.out,Tt.out] at e4;simp only[Option.map_some] at e4;obtain⟨_,o2⟩:=h3.wI HBC.out HI.out;rw[ha0] at h3 ⊢;clear H2 ha0;revert h3 e4 o2;generalize w2.alloc (Obj.cells #[.pointer (some ⟨p,0,none⟩),.slice (some ⟨mb,0,none⟩) N N,.slice none 0 0,.slice none 0 0,.slice none 0 0,.int .i64 0] 143)=w3;intro h3 e4 o2;have al:=fun (o:Obj) (a:Addr) (v:Value) (k:w3.cell? a=some v)=>(World.cell?_alloc_some (w:=w3) a o (by rw[k];rfl)).trans k;have e5:=al (Obj.cells #[.int .u32 0] 98) _ _ e4;have o3:=al (Obj.cells #[.int .u32 0] 98) _ _ o2;have h4:=(h3.new1 (.int .u32 0) 98).new1 (.int .i64 rd) 3;have g3:=(((h3.alloc (Obj.cells #[.int .u32 0] 98)).alloc (Obj.cells #[.int .i64 rd] 3)).pJ 3);have g4:=(((h3.alloc (Obj.cells #[.int .u32 0] 98)).alloc (Obj.cells #[.int .i64 rd] 3)).pJ 4)
 have g5:=(((h3.alloc (Obj.cells #[.int .u32 0] 98)).alloc (Obj.cells #[.int .i64 rd] 3)).pJ 5);simp only[dK,List.getElem?_cons_succ,List.getElem?_cons_zero] at g3 g4 g5;obtain⟨g3,f3⟩:=g3;obtain⟨g4,f4⟩:=g4;obtain⟨g5,f5⟩:=g5;clear al e4 o2
 go_upto_region 3 with fail
 have hsz:(w3.alloc (Obj.cells #[.int .u32 0] 98)).heap.size=w3.heap.size+1:=by simp
 rw[hsz] at h4;obtain⟨b1,hb1⟩:∃ b1,w3.heap.size=b1:=⟨_,rfl⟩
 try rw[hb1]
 rw[hb1] at h4
 have h5:St B w0 ((w3.alloc (Obj.cells #[.int .u32 0] 98)).alloc (Obj.cells #[.int .i64 rd] 3)) (star (pt a0 143 [.pointer (some ⟨p,0,none⟩),.slice (some ⟨mb,0,none⟩) N N,.slice none 0 0,.slice none 0 0,.slice none 0 0,.int .i64 0]) (star (sl (some (b1+1)) 1 1 3 1 [.int .i64 rd]) (star (sl (some b1) 1 1 98 1 [.int .u32 0]) (star (sl (some mb) N N 4 1 (List.replicate N (.bool false))) (star (stars (parts p M)) (star (pt r0' 129 [.slice none 0 0,.slice none 0 0,.int .i64 0]) F)))))):=by
  refine h4.st.aB ?_;simp only[aK,dK,Fl.hp,Fl.v,List.length_replicate,List.map_replicate,List.length_nil,List.map_nil,gK,kW,j6,aQ,Option.map_some,Option.map_none,vB,vN];show _=star (pt a0 143 [.pointer (some ⟨p,0,none⟩),.slice (some ⟨mb,0,none⟩) N N,.slice none 0 0,.slice none 0 0,.slice none 0 0,.int .i64 0]) _
  ac_rfl
 have h6:=((h5.bM 3 (.slice (some ⟨b1,0,none⟩) 1 1)).bM 4 (.slice (some ⟨b1+1,0,none⟩) 1 1)).bM 5 (.int .i64 0);simp only[List.set_cons_succ,List.set_cons_zero] at h6;clear h4 h5 e5 o3 g3 g4 g5 f3 f4 f5 hsz e4 e3 e2
 have h7:At B w0 (((((w3.alloc (Obj.cells #[.int .u32 0] 98)).alloc (Obj.cells #[.int .i64 rd] 3)).setCell ⟨a0,3,none⟩ (.slice (some ⟨b1,0,none⟩) 1 1)).setCell ⟨a0,4,none⟩ (.slice (some ⟨b1+1,0,none⟩) 1 1)).setCell ⟨a0,5,none⟩ (.int .i64 0)) p M (star (stars (aK p a0 ⟨⟨some mb,N,List.replicate N false⟩,⟨none,0,[]⟩,⟨some b1,1,[0]⟩,⟨some (b1+1),1,[rd]⟩,0⟩)) (star (pt r0' 129 [.slice none 0 0,.slice none 0 0,.int .i64 0]) F)):=by
  refine At.Cr (h6.aB ?_) H.out.bA;simp only[aK,dK,Fl.hp,Fl.v,List.length_replicate,List.map_replicate,List.length_nil,List.map_nil,List.length_cons,List.map_cons,gK,kW,j6,aQ,iA,Option.map_some,Option.map_none,vB,vN,vL,vI];show star (pt a0 143 [.pointer (some ⟨p,0,none⟩),.slice (some ⟨mb,0,none⟩) N N,.slice none 0 0,.slice (some ⟨b1,0,none⟩) 1 1,.slice (some ⟨b1+1,0,none⟩) 1 1,.int .i64 0]) _=_
  ac_rfl
 clear h6 h3 hb1;revert h7;generalize (((((w3.alloc (Obj.cells #[.int .u32 0] 98)).alloc (Obj.cells #[.int .i64 rd] 3)).setCell ⟨a0,3,none⟩ (.slice (some ⟨b1,0,none⟩) 1 1)).setCell ⟨a0,4,none⟩ (.slice (some ⟨b1+1,0,none⟩) 1 1)).setCell ⟨a0,5,none⟩ (.int .i64 0))=w4;intro h7;obtain⟨A0,hA0⟩:∃ A:An,A=⟨⟨some mb,N,List.replicate N false⟩,⟨none,0,[]⟩,⟨some b1,1,[0]⟩,⟨some (b1+1),1,[rd]⟩,0⟩:=⟨_,rfl⟩;obtain⟨FF,hFF⟩:∃ X,star (pt r0' 129 [.slice none 0 0,.slice none 0 0,.int .i64 0]) F=X:=⟨_,rfl⟩;rw[←hA0,hFF] at h7
 have hl0:dD M.sv bad=SM.meets M.sv A0.am bad 0:=by
  unfold dD;rw[hA0,Wj.out,show M.sv.value.length=N from DI.out];rfl
 have hM0:=Je bad 0 h7 fA.out.h (by rw[DI.out,←DI.out];exact fA.out.sz.level) (by rw[hA0,DI.out];show (List.replicate N false).length=N;simp) (by rw[Tt.out];omega) fA.out.vars fA.out.len (by rw[hA0];show 0≤_;omega) (by rw[hA0];show 1≤_;omega);rw[←hl0] at hM0;have HM0:=zH hM0;have HFF:=zH hFF;have HL0:=zH (show A0.jo=0 by rw[hA0]);clear h7 hl0 hM0 hFF hA0 r0 r1
 go_wp2_with fail
 refine HM0.out.mono ?_
 rintro e w5 ⟨rfl,a1,a2,a3,A1,h8,h9,h10,h11⟩
 obtain⟨o,ho⟩:∃ o,(dD M.sv bad).2.2=o:=⟨_,rfl⟩;rw[ho];have hinv:=kg 0 (M.sv.cl bad) (S:=M.sv) (A:={ met:=List.replicate M.sv.value.length false,zero:=[],lits:=[0],fr:=[M.sv.id bad] }) (n:=0) fA.out.h fA.out.vars;change bG (dD M.sv bad).1∧(dD M.sv bad).1.value=M.sv.value∧(dD M.sv bad).2.1.met.length=(List.replicate M.sv.value.length false).length∧(dD M.sv bad).2.2≤0+(M.sv.cl bad).length∧(dD M.sv bad).2.1.fr=[M.sv.id bad] at hinv;rw[←h9,←h10,ho] at hinv;obtain⟨i1,i2,i3,i4,i5⟩:=hinv;rw[List.length_replicate,show M.sv.value.length=N from DI.out] at i3;have hob:o≤100000:=by have:=fA.out.len;omega
 have hlo:=fA.out.ok;rw[←h9,←h10,ho] at hlo;have hl1:aV M.sv bad=SM.dY (MM.sv (M.aP a1 a2 a3)).trail.length (MM.sv (M.aP a1 a2 a3)) A1.am o:=by unfold aV;rw[←h9,←h10,ho]
 obtain⟨t,ht⟩:∃ t,M.trail.xs.length=t+1:=by
  cases e:M.trail.xs.length with
  | zero=>rw[show (MM.sv (M.aP a1 a2 a3)).trail.length=0 from e] at hlo;exact hlo.elim
  | succ t=>exact⟨t,rfl⟩
 rw[show (MM.sv (M.aP a1 a2 a3)).trail.length=t+1 from ht] at hlo hl1;obtain⟨L1,hL1⟩:∃ L,aV M.sv bad=L:=⟨_,rfl⟩;rw[hL1] at hl1;have HL1:=zH hL1;have HLO:=zH hlo;have Jb:=zH hl1.symm;have HT:=zH ht;have H8:=zH h8;have HI1:=zH i1;have HI3:=zH (show A1.met.xs.length=N∧A1.jo=0 from⟨i3,h11.trans HL0.out⟩);have htb:t+1≤900000:=by rw[←ht];exact fA.out.trl
 have c12:=h8.jV;rw[show (M.aP a1 a2 a3).trail.xs.length=t+1 from ht] at c12;clear h8 h9 h10 h11 ho i1 i2 i3 i4 i5 hlo hl1 hL1 ht HM0
 go_wp2
 clear c12
 go_step3
 go_wp2
 go_loopg [6,7] t (fun g s6 s7 wr=>∃ (i o:Nat) (a1 a2 a3:Fl Nat) (A':An),s6=.int .i64 o∧s7=.int .i64 i∧i≤t∧o≤100000*(t+1-i)∧Hid (g=i) ∧
  Hid (At B w0 wr p (M.aP a1 a2 a3) (star (stars (aK p a0 A')) FF))∧Hid (bG (MM.sv (M.aP a1 a2 a3)))∧Hid (A'.met.xs.length=N∧A'.jo=0)∧Hid (jC (i+1) (MM.sv (M.aP a1 a2 a3)) A'.am o)∧Hid (SM.dY (i+1) (MM.sv (M.aP a1 a2 a3)) A'.am o=L1))
 case atStart=>exact⟨t,o,a1,a2,a3,A1,rfl,by go_num,Nat.le_refl _,by omega,rfl,H8.out,HI1.out,HI3.out,HLO.out,Jb.out⟩
 case round =>
  clear H8 HI1 HI3 HLO Jb;obtain⟨i,o,a1,a2,a3,A',rfl,rfl,hit,ak2,hg,H3,HV,HA,HLO,HE⟩:=hrel;obtain⟨l,hl⟩:∃ l,gn M.trail.xs i=l:=⟨_,rfl⟩;have hix:i<M.trail.xs.length:=by rw[HT.out];omega
  obtain⟨bt,hbt⟩:=H3.out.Kr (by show 0<M.trail.xs.length;omega);obtain⟨k1,_⟩:=H3.out.Dt hbt (i:=i) (x:=l) (by rw[←hl];exact aM _ _ hix);simp only[vL] at k1;have c12:=H3.out.jV;rw[hbt,show (M.aP a1 a2 a3).trail.xs.length=t+1 from HT.out] at c12;simp only[Option.map_some] at c12;have hlv:l/2<N:=by rw[←DI.out,←hl];exact fA.out.tr _ (aU _ _ hix)
  have Ye:l<1000000:=by omega
  have qQ:=zH (fun V=>pQ l V Ye);obtain⟨q,hq⟩:∃ q,l/2=q:=⟨_,rfl⟩;have hlo:=HLO.out;have hge:=HE.out;rw[jC,show gn (MM.sv (M.aP a1 a2 a3)).trail i=l from hl] at hlo;rw[SM.dY,show gn (MM.sv (M.aP a1 a2 a3)).trail i=l from hl] at hge;rw[hq] at qQ hlo hge hlv;obtain⟨bm,yZ⟩:=H3.out.Yg (by rw[HA.out.1];omega);obtain⟨m,hm⟩:∃ m,gB A'.met.xs q=m:=⟨_,rfl⟩;have hqm:q<A'.met.xs.length:=by rw[HA.out.1];exact hlv
  obtain⟨k4,f4⟩:=H3.out.Yh yZ (i:=q) (x:=m) (by rw[←hm];exact jy _ _ hqm);have k5:=(H3.out.pJ 1).1;simp only[dK,List.getElem?_cons_succ,List.getElem?_cons_zero] at k5;rw[show A'.met.v=.slice (some ⟨bm,0,none⟩) N A'.met.c by unfold Fl.v;rw[yZ,HA.out.1];rfl] at k5;have q0:(0:Int)≤(q:Int):=by omega
  have q9:(q:Int)<(N:Int):=by omega
  have t0:(0:Int)≤(i:Int):=by omega
  have t1:(i:Int)<((t+1:Nat):Int):=by omega
  rw[show gB A'.am.met q=m from hm] at hlo hge;simp only[vB] at k4;have HLQ:=zH hq;have aef:=zH hlo;have HGE:=zH hge;have HHL:=zH hl;clear hlo hge HLO HE hl hix hbt yZ hm hqm f4 hq
  go_upto_region 7 with fail
  go_quiet ((go_at_call 68;exact uJ qQ.out _))
  revert nq;intro nq1
  cases m with
  | false =>
   have hlo:=aef.out;have hge:=HGE.out;rw[if_neg (by decide)] at hlo hge
   obtain⟨j,rfl⟩:∃ j,i=j+1:=by
    cases i with
    | zero=>exact hlo.elim
    | succ j=>exact⟨j,rfl⟩
   have Yl:=zH hlo;have Bt:=zH hge;clear hlo hge
   go_wp2
   go_roundg j
   case measure=>have:=hg.out;omega
   case rel=>exact⟨j,o,a1,a2,a3,A',rfl,rfl,by omega,by omega,rfl,H3.out.drewN _,HV.out,HA.out,Yl.out,Bt.out⟩
  | true =>
   have hlo:=aef.out;have hge:=HGE.out;rw[if_pos rfl] at hlo hge;obtain⟨ho0,hlo⟩:=hlo;have Yl:=zH hlo;have Bt:=zH hge;clear hlo hge aef HGE k1 k4 k5 c12;have H4:=zH (H3.out.drewN nq1);clear H3;revert H4;generalize wr.drewN nq1=w6;intro H4
   by_cases ho1:o=1
   ·subst ho1;have hge:=Bt.out;rw[if_pos rfl] at hge;have QW:=zH hge;have e7:decide (((0:Nat):Int)=0)=true:=by simp
    obtain⟨nl,hnl⟩:∃ n,A'.lits.xs.length=n:=⟨_,rfl⟩
    have hl0:0<nl:=by
     have h9:=fA.out.l0;rw[HL1.out,←hge] at h9;have h8:0<(A'.lits.xs.set 0 (negL l)).length:=h9;rw[List.length_set,hnl] at h8;exact h8
    have hlb:nl≤200000:=by
     have h9:=fA.out.ll;rw[HL1.out,←hge] at h9;have h8:(A'.lits.xs.set 0 (negL l)).length≤200000:=h9;rw[List.length_set,hnl] at h8;exact h8
    obtain⟨bl,hbl⟩:=H4.out.abh (by omega);obtain⟨k6,f6⟩:=H4.out.DF hbl (i:=0) (x:=gn A'.lits.xs 0) (aM _ _ (by omega));have k7:=(H4.out.pJ 3).1;simp only[dK,List.getElem?_cons_succ,List.getElem?_cons_zero] at k7;rw[show A'.lits.v=.slice (some ⟨bl,0,none⟩) nl A'.lits.c by unfold Fl.v;rw[hbl,hnl];rfl] at k7;have hx1:=Jg l (by omega);have H5:=zH (show At B w0 (w6.setCell ⟨bl,0,none⟩ (.int .u32 (negL l))) p (M.aP a1 a2 a3) (star (stars (aK p a0 (A'.bq ⟨A'.lits.a,A'.lits.c,A'.lits.xs.set 0 (negL l)⟩))) FF) from H4.out.Br hbl (by omega) (negL l));have KF:=zH hbl;have vR:=zH (show (A'.bq ⟨A'.lits.a,A'.lits.c,A'.lits.xs.set 0 (negL l)⟩).lits.xs.length=nl by rw[←hnl];exact List.length_set);have l0:(0:Int)<(nl:Int):=by omega
    have U1:=zH (show (MM.sv (M.aP a1 a2 a3),(A'.bq ⟨A'.lits.a,A'.lits.c,A'.lits.xs.set 0 (negL l)⟩).am)=L1 from hge);clear hge hbl hnl Yl Bt
    go_upto_region 14 with fail
    clear k6 f6 k7 H4 qQ hlv q0 q9 t0 t1 hx1 ak2 hg hit HLQ HHL;revert H5;generalize w6.setCell ⟨bl,0,none⟩ (.int .u32 (negL l))=w7;intro H5;obtain⟨A2,hA2⟩:∃ A2,A'.bq ⟨A'.lits.a,A'.lits.c,A'.lits.xs.set 0 (negL l)⟩=A2:=⟨_,rfl⟩;have hb2:A2.lits.a=some bl:=by rw[←hA2];exact KF.out
    have jN:A2.jo=0:=by rw[←hA2];exact HA.out.2
    rw[hA2] at H5 vR U1;have HB2:=zH hb2;have abm:=zH jN
    have hz2:∀ v∈A2.zero.xs,Z v:=by
     have h9:=fA.out.zero;rw[HL1.out,←U1.out] at h9;exact h9
    have hzl:A2.zero.xs.length≤200000:=by
     have h9:=fA.out.zl;rw[HL1.out,←U1.out] at h9;exact h9
    have hfl:A2.fr.xs.length≤1000000:=by
     have h9:=fA.out.frl;rw[HL1.out,←U1.out] at h9;exact h9
    have hlv2:∀ x∈A2.lits.xs,x/2<N:=by
     have h9:=fA.out.lits;rw[HL1.out,←U1.out] at h9;rw[←DI.out];exact h9
    clear hA2 hb2 jN HA KF;obtain⟨S1,hS1⟩:∃ S1,MM.sv (M.aP a1 a2 a3)=S1:=⟨_,rfl⟩
    have huo:zG S1 Z rk:=by
     have k1:=fA.out.un;rw[←hS1];exact⟨k1.units,k1.reason,k1.small,k1.cls,k1.uI,k1.ids,k1.z,k1.r⟩
    have hvs:S1.value.length=N:=by rw[←hS1];exact DI.out
    have HUO:=zH huo;have HVS:=zH hvs;obtain⟨Q,hQ⟩:∃ Q,S1.bH A2.zero.xs A2.fr.xs=Q:=⟨_,rfl⟩;have HQ:=zH hQ;have HZ2:=zH hz2;have ak4:=zH hlv2;have yw:=zH hS1;obtain⟨nz,hnz⟩:∃ nz,A2.zero.xs.length=nz:=⟨_,rfl⟩;rw[hnz] at hzl;have UC:=zH hnz;have k8:=(H5.out.pJ 2).1;simp only[dK,List.getElem?_cons_succ,List.getElem?_cons_zero] at k8;obtain⟨za,hza⟩:∃ za,(A2.zero.a.map fun b=>(⟨b,0,none⟩:Addr))=za:=⟨_,rfl⟩;rw[show A2.zero.v=.slice za nz A2.zero.c by unfold Fl.v;rw[hza,hnz]] at k8;have HZA:=zH hza;clear huo hvs hQ hz2 hS1 hnz hza hlv2
    go_wp2
    clear k8
    go_loopg [115] nz (fun g ak6 wr=>∃ (k n:Nat) (fr u:Fl Int) (st:Fl (Fl Int)),ak6=.int .i64 k∧k≤nz∧n≤1000000+k∧Hid (fr.xs.length=n)∧Hid (g=nz-k) ∧
     Hid (At B w0 wr p ((M.aP a1 a2 a3).dJ u st) (star (stars (aK p a0 (A2.qV fr))) FF))∧Hid (tX S1 (MM.sv ((M.aP a1 a2 a3).dJ u st)))∧Hid (SM.bH (MM.sv ((M.aP a1 a2 a3).dJ u st)) (A2.zero.xs.drop k) fr.xs=Q))
    case atStart=>exact⟨0,A2.fr.xs.length,A2.fr,M.units,M.steps,rfl,Nat.zero_le _,by omega,rfl,rfl,H5.out,zH (by show tX S1 (MM.sv (M.aP a1 a2 a3));rw[yw.out];exact tX.refl _),zH (by show SM.bH (MM.sv (M.aP a1 a2 a3)) _ _=Q;rw[yw.out];exact HQ.out)⟩
    case round =>
     obtain⟨k,n,fr,u,st,rfl,hkn,hnb,Wn,hg,H6,HUT,HE⟩:=hrel
     by_cases hkl:k<nz
     ·have e2:decide ((k:Int)<(nz:Int))=true:=by simp;omega
      obtain⟨bz,hbz⟩:=H6.out.abf (by show 0<A2.zero.xs.length;rw[UC.out];omega);have ag6:A2.zero.a=some bz:=hbz;obtain rfl:za=some ⟨bz,0,none⟩:=by rw[←HZA.out,ag6];rfl
      obtain⟨v,hv⟩:∃ v,gn A2.zero.xs k=v:=⟨_,rfl⟩;have hkx:k<A2.zero.xs.length:=by rw[UC.out];exact hkl
      obtain⟨k3,_⟩:=H6.out.abg hbz (i:=k) (x:=v) (by rw[←hv];exact aM _ _ hkx);simp only[vN] at k3;have z1:=HZ2.out v (by rw[←hv];exact aU _ _ hkx);have hdr:A2.zero.xs.drop k=v :: A2.zero.xs.drop (k+1):=by rw[←hv,fD _ _ hkx];exact List.drop_eq_getElem_cons hkx
      have hE:=HE.out;rw[hdr,SM.bH] at hE;have hrq:=fA.out.rk _ z1;rw[show M.sv.value.length=N from DI.out] at hrq;have hun:SM.unit (MM.sv ((M.aP a1 a2 a3).dJ u st)) v=SM.bY N (MM.sv ((M.aP a1 a2 a3).dJ u st)) v:=by unfold SM.unit;rw[HUT.out.value,HVS.out]
      rw[hun] at hE;have HC:=zH (fun V (hV:At B w0 V p ((M.aP a1 a2 a3).dJ u st) (star (stars (aK p a0 (A2.qV fr))) FF))=>FD N V _ _ v hV (HUO.out.AY HUT.out) z1 hrq);have HTO:=zH (vM N (HUO.out.AY HUT.out) z1 hrq).1.AY;obtain⟨x,hx⟩:∃ x,(SM.bY N (MM.sv ((M.aP a1 a2 a3).dJ u st)) v).2=x:=⟨_,rfl⟩;rw[hx] at hE HC;have HE2:=zH hE;have p0:(0:Int)≤(k:Int):=by omega
      have p1:(k:Int)<(nz:Int):=by omega
      have c2:wr.cell? ⟨a0,4,none⟩=some (.slice (fr.a.map fun b=>⟨b,0,none⟩) n fr.c):=by rw[←Wn.out];exact (H6.out.pJ 4).1
      clear hE hv hbz hdr hkx hun hx ag6 HE z1 hrq
      go_upto_region 17 with fail
      refine dn 14 (fun V:World=>V.cell? ⟨a0,4,none⟩=some (.slice (fr.a.map fun b=>⟨b,0,none⟩) n fr.c)) (by kernel_rfl) ?_;have bB:(fun V:World=>V.cell? ⟨a0,4,none⟩=some (.slice (fr.a.map fun b=>⟨b,0,none⟩) n fr.c)) wr.drew:=c2;refine ay (i:=0) (v:=?v1) rfl (by kernel_rfl) (by kernel_rfl) (by kernel_rfl) (by kernel_rfl) (fun _ _ _ h=>h) rfl ?hy1 bB ?_
      case hy1 =>
       intro V aF
       try dsimp only at aF
       first | (obtain⟨aS,aT,cK⟩:=aF) | (obtain⟨aS,aT⟩:=aF) | skip
       go_simp
       try with_reducible rfl
      try simp only[Act.put,List.setIfInBounds_toArray,List.set_cons_zero,List.set_cons_succ]
      refine ay (i:=1) (v:=?v2) rfl (by kernel_rfl) (by kernel_rfl) (by kernel_rfl) (by kernel_rfl) (fun _ _ _ h=>h) rfl ?hy2 bB ?_
      case hy2 =>
       intro V aF
       try dsimp only at aF
       first | (obtain⟨aS,aT,cK⟩:=aF) | (obtain⟨aS,aT⟩:=aF) | skip
       go_simp
       try with_reducible rfl
      try simp only[Act.put,List.setIfInBounds_toArray,List.set_cons_zero,List.set_cons_succ]
      refine ay (i:=2) (v:=?v3) rfl (by kernel_rfl) (by kernel_rfl) (by kernel_rfl) (by kernel_rfl) (fun _ _ _ h=>h) rfl ?hy3 bB ?_
      case hy3 =>
       intro V aF
       try dsimp only at aF
       first | (obtain⟨aS,aT,cK⟩:=aF) | (obtain⟨aS,aT⟩:=aF) | skip
       go_simp
       try with_reducible rfl
      try simp only[Act.put,List.setIfInBounds_toArray,List.set_cons_zero,List.set_cons_succ]
      refine ay (i:=3) (v:=?v4) rfl (by kernel_rfl) (by kernel_rfl) (by kernel_rfl) (by kernel_rfl) (fun _ _ _ h=>h) rfl ?hy4 bB ?_
      case hy4 =>
       intro V aF
       try dsimp only at aF
       first | (obtain⟨aS,aT,cK⟩:=aF) | (obtain⟨aS,aT⟩:=aF) | skip
       go_simp
       try with_reducible rfl
      try simp only[Act.put,List.setIfInBounds_toArray,List.set_cons_zero,List.set_cons_succ]
      refine ay (i:=4) (v:=?v5) rfl (by kernel_rfl) (by kernel_rfl) (by kernel_rfl) (by kernel_rfl) (fun _ _ _ h=>h) rfl ?Qx bB ?_
      case Qx =>
       intro V aF
       try dsimp only at aF
       first | (obtain⟨aS,aT,cK⟩:=aF) | (obtain⟨aS,aT⟩:=aF) | skip
       go_simp
       try with_reducible rfl
      try simp only[Act.put,List.setIfInBounds_toArray,List.set_cons_zero,List.set_cons_succ]
      refine ay (i:=5) (v:=?v6) rfl (by kernel_rfl) (by kernel_rfl) (by kernel_rfl) (by kernel_rfl) (fun _ _ _ h=>h) rfl ?Ih bB ?_
      case Ih =>
       intro V aF
       try dsimp only at aF
       first | (obtain⟨aS,aT,cK⟩:=aF) | (obtain⟨aS,aT⟩:=aF) | skip
       go_simp
       try with_reducible rfl
      try simp only[Act.put,List.setIfInBounds_toArray,List.set_cons_zero,List.set_cons_succ]
      refine ay (i:=6) (v:=?v7) rfl (by kernel_rfl) (by kernel_rfl) (by kernel_rfl) (by kernel_rfl) (fun _ _ _ h=>h) rfl ?UL bB ?_
      case UL =>
       intro V aF
       try dsimp only at aF
       first | (obtain⟨aS,aT,cK⟩:=aF) | (obtain⟨aS,aT⟩:=aF) | skip
       go_simp
       try with_reducible rfl
      try simp only[Act.put,List.setIfInBounds_toArray,List.set_cons_zero,List.set_cons_succ]
      refine ay (i:=7) (v:=?v8) rfl (by kernel_rfl) (by kernel_rfl) (by kernel_rfl) (by kernel_rfl) (fun _ _ _ h=>h) rfl ?WT bB ?_
      case WT =>
       intro V aF
       try dsimp only at aF
       first | (obtain⟨aS,aT,cK⟩:=aF) | (obtain⟨aS,aT⟩:=aF) | skip
       go_simp
       try with_reducible rfl
      try simp only[Act.put,List.setIfInBounds_toArray,List.set_cons_zero,List.set_cons_succ]
      refine bf (i:=8) (by kernel_rfl) rfl (fun K hK=>?_)
      go_simp
      refine (HC.out _ (H6.out.drewN 1)).mono ?_
      rintro e w4 ⟨rfl,u4,s4,h4,h5⟩
      have MO:At B w0 w4 p ((M.aP a1 a2 a3).dJ u4 s4) (star (stars (aK p a0 (A2.qV fr))) FF):=h4
      have abo:(fun V:World=>V.cell? ⟨a0,4,none⟩=some (.slice (fr.a.map fun b=>⟨b,0,none⟩) n fr.c)) w4:=by
       have h9:=(MO.pJ 4).1;rw[←Wn.out];exact h9
      have ht4:=MO.acT;rw[show (A2.qV fr).fr.xs.length=n from Wn.out] at ht4;have HT4:=zH ht4;have HL4:=zH MO.bA;have tY:=zH (show MM.sv ((M.aP a1 a2 a3).dJ u4 s4)=(SM.bY N (MM.sv ((M.aP a1 a2 a3).dJ u st)) v).1 from h5);clear h4 MO h5 ht4 HC;refine hK _ _ abo ?_;clear hK K
      try simp only[Act.put,List.setIfInBounds_toArray,List.set_cons_zero,List.set_cons_succ]
      refine bf (i:=9) (by kernel_rfl) rfl (fun K hK=>?_)
      go_simp
      refine hK _ _ ((World.cell?_alloc_some w4 ⟨a0,4,none⟩ (Obj.cells #[Value.int IntKind.i64 x] 3) (by rw[abo];rfl)).trans abo) ?_;clear hK K
      try simp only[Act.put,List.setIfInBounds_toArray,List.set_cons_zero,List.set_cons_succ]
      refine bf (i:=10) (by kernel_rfl) rfl (fun K hK=>?_);refine bN (by rfl) _ _ 27 3 (.int .i64 0) 8 (by rfl) Tryz.underlying27 Tryz.bW rfl (HT4.out.alloc _) (by rfl) w4.heap.size (.int .i64 x) (by rfl) (fJ w4 _ _) rfl (by omega) (by simp only[maxLen];omega) ?_;intro b' c' w5 hs _;obtain⟨⟨k5,k6⟩,k7⟩:=At.MQ (M:=(M.aP a1 a2 a3).dJ u4 s4) (A:=A2.qV fr) (x:=x) HL4.out Wn.out hs;have HS2:(fun V:World=>V.cell? ⟨a0,4,none⟩=some (.slice (fr.a.map fun b=>⟨b,0,none⟩) n fr.c)) w5:=k5;have H7:=zH k7;clear hs k7;refine hK _ _ HS2 ?_;clear hK K
      try simp only[Act.put,List.setIfInBounds_toArray,List.set_cons_zero,List.set_cons_succ]
      refine bf (i:=11) (by kernel_rfl) rfl (fun K hK=>?_)
      go_simp
      refine hK _ _ (HS2) ?_;clear hK K
      try simp only[Act.put,List.setIfInBounds_toArray,List.set_cons_zero,List.set_cons_succ]
      refine bf (i:=12) (by kernel_rfl) rfl (fun K hK=>?_)
      go_simp
      refine hK _ _ (HS2) ?_;clear hK K
      try simp only[Act.put,List.setIfInBounds_toArray,List.set_cons_zero,List.set_cons_succ]
      refine bf (i:=13) (by kernel_rfl) rfl (fun K hK=>?_)
      go_simp
      refine hK _ _ (HS2) ?_;clear hK K
      try simp only[Act.put,List.setIfInBounds_toArray,List.set_cons_zero,List.set_cons_succ]
      refine iy (by kernel_rfl) rfl (by kernel_rfl) (fun K hK=>?_)
      go_simp
      refine hK _ _ ?_;clear hK K;clear bB abo HS2 c2 k3 k5 k6
      go_wp2
      go_roundg (nz-(k+1))
      case measure=>have:=hg.out;omega
      case rel=>exact⟨k+1,n+1,⟨some b',c',fr.xs++[x]⟩,u4,s4,by go_num,by omega,by omega,zH (by simp[Wn.out]),rfl,H7.out,zH (by rw[tY.out];exact HUT.out.trans HTO.out),zH (by rw[tY.out];exact HE2.out)⟩
     ·obtain rfl:k=nz:=by omega
      have e2:decide ((k:Int)<(k:Int))=false:=by simp
      have hR:Q=(MM.sv ((M.aP a1 a2 a3).dJ u st),fr.xs):=by rw[←HE.out,List.drop_of_length_le (by rw[UC.out];exact Nat.le_refl _)];rfl
      have HR:=zH hR;clear hR HE hg;obtain⟨A3,hA3⟩:∃ A3,A2.qV fr=A3:=⟨_,rfl⟩;obtain⟨M3,zJ⟩:∃ M3,(M.aP a1 a2 a3).dJ u st=M3:=⟨_,rfl⟩;rw[hA3,zJ] at H6;have HB3:=zH (show A3.lits.a=some bl by rw[←hA3];exact HB2.out);have HN3:=zH (show A3.lits.xs.length=nl by rw[←hA3];exact vR.out);have ag7:=zH (show A3.jo=0 by rw[←hA3];exact abm.out);have HM3:=zH zJ;have HA3:=zH hA3;have U2:=zH (show M3.level.xs.length=N∧M3.level.xs=M.level.xs by rw[←zJ];exact⟨by show M.level.xs.length=N;rw[←DI.out];exact fA.out.sz.level,rfl⟩);have ak7:=zH (show ∀ x∈A3.lits.xs,x/2<N by rw[←hA3];exact ak4.out);have k9:=(H6.out.pJ 3).1;simp only[dK,List.getElem?_cons_succ,List.getElem?_cons_zero] at k9;rw[show A3.lits.v=.slice (some ⟨bl,0,none⟩) nl A3.lits.c by unfold Fl.v;rw[HB3.out,HN3.out];rfl] at k9;obtain⟨cl,hcl⟩:∃ c,A3.lits.c=c:=⟨_,rfl⟩
      have ak8:nl≤cl:=by
       have h9:=H6.out.vQ;have h8:=h9.sat.aR.2.1;rw[HN3.out,hcl] at h8;exact h8
      rw[hcl] at k9;have jW:=zH hcl;have u0:(1:Int)≤(nl:Int):=by omega
      have u1:(nl:Int)≤(cl:Int):=by omega
      clear hA3 zJ hcl;obtain⟨n1,rfl⟩:∃ n1,nl=n1+1:=⟨nl-1,by omega⟩
      go_upto_region 19 with fail
      go_cut [139,140,141] (fun ak9 ala aeh wx=>wx=wr∧∃ ad cc,ak9=.slice ad n1 cc∧ala=.int .i64 n1∧aeh=.int .i64 0∧(n1=0∨ad=some ⟨bl,1,none⟩))
      case first =>
       by_cases hc1:cl=1
       ·go_wp2_with fail
        go_meet
        exact⟨rfl,_,_,rfl,rfl,rfl,.inl (by omega)⟩
       ·go_wp2_with fail
        go_meet
        exact⟨rfl,_,_,rfl,rfl,rfl,.inr rfl⟩
      case rest =>
       obtain⟨rfl,ad,cc,rfl,rfl,rfl,had⟩:=hcut;obtain⟨T,hT⟩:∃ T,SM.lT (MM.sv M3) n1 A3.lits.xs 0 0=T:=⟨_,rfl⟩
       have hLE:M.sv.learn bad=(MM.sv M3,T.1,A3.fr.xs,T.2):=by
        have h9:M.sv.learn bad=(((aV M.sv bad).1.bH (aV M.sv bad).2.zero (aV M.sv bad).2.fr).1,(((aV M.sv bad).1.bH (aV M.sv bad).2.zero (aV M.sv bad).2.fr).1.lT ((aV M.sv bad).2.lits.length-1) (aV M.sv bad).2.lits 0 0).1,((aV M.sv bad).1.bH (aV M.sv bad).2.zero (aV M.sv bad).2.fr).2,(((aV M.sv bad).1.bH (aV M.sv bad).2.zero (aV M.sv bad).2.fr).1.lT ((aV M.sv bad).2.lits.length-1) (aV M.sv bad).2.lits 0 0).2):=rfl;rw[h9,HL1.out,←U1.out];dsimp only;rw[yw.out,show A2.am.zero=A2.zero.xs from rfl,show A2.am.fr=A2.fr.xs from rfl,HQ.out,HR.out,HM3.out];dsimp only;rw[show A2.am.lits=A3.lits.xs by rw[←HA3.out];rfl,HN3.out,show n1+1-1=n1 from rfl,hT];rw[show A3.fr.xs=fr.xs by rw[←HA3.out]]
       have ag8:(A3.bq ⟨A3.lits.a,A3.lits.c,A3.lits.xs⟩).mK 0=A3:=by
        have h9:=ag7.out;rcases A3 with ⟨x1,x2,x3,x4,x5⟩;simp only at h9;subst h9;rfl
       have Jh:=zH hLE;have HTT:=zH hT;have alb:=zH ag8;clear hLE hT ag8 k9
       go_wp2
       go_loopg [141] n1 (fun g aeh wx=>∃ (k h:Nat) (cs:List Nat),aeh=.int .i64 k∧k≤n1∧Hid (cs.length=n1+1)∧Hid (g=n1-k) ∧
        Hid (At B w0 wx p M3 (star (stars (aK p a0 ((A3.bq ⟨A3.lits.a,A3.lits.c,cs⟩).mK h))) FF))∧Hid (∀ x∈cs,x/2<N)∧Hid (SM.lT (MM.sv M3) (n1-k) cs k h=T))
       case atStart=>exact⟨0,0,A3.lits.xs,rfl,Nat.zero_le _,HN3.out,rfl,zH (by rw[alb.out];exact H6.out),ak7.out,HTT.out⟩
       case round =>
        clear H6;obtain⟨k,hh,cs,rfl,hkn,KL,hg,H6,DC,HE⟩:=hrel
        by_cases hkl:k<n1
        ·have e2:decide ((k:Int)<(n1:Int))=true:=by simp;omega
         obtain rfl:ad=some ⟨bl,1,none⟩:=by
          rcases had with h | h
          ·omega
          ·exact h
         obtain⟨y,hy⟩:∃ y,gn cs (k+1)=y:=⟨_,rfl⟩;have hkx:k+1<cs.length:=by rw[KL.out];omega
         have hb4:((A3.bq ⟨A3.lits.a,A3.lits.c,cs⟩).mK hh).lits.a=some bl:=HB3.out;obtain⟨k1,_⟩:=H6.out.DF hb4 (i:=k+1) (x:=y) (by rw[←hy];exact aM _ _ hkx);simp only[vL] at k1;have k1b:wr.cell? ⟨bl,1+k,none⟩=some (.int .u32 y):=by rw[Nat.add_comm];exact k1
         have hyv:y/2<N:=DC.out y (by rw[←hy];exact aU _ _ hkx);have Ih:y<1000000:=by omega
         have qQ:=zH (fun V=>pQ y V Ih);obtain⟨q,hq⟩:∃ q,y/2=q:=⟨_,rfl⟩;obtain⟨lv,jN⟩:∃ lv,gn M.level.xs q=lv:=⟨_,rfl⟩;obtain⟨bv,hbv⟩:=H6.out.Dr (by rw[U2.out.1];omega);rw[hq] at qQ hyv;obtain⟨d1,_⟩:=H6.out.zx hbv (i:=q) (x:=lv) (by rw[U2.out.2,←jN];exact aM _ _ (by rw[←U2.out.2,U2.out.1];exact hyv));simp only[vN] at d1;have d2:=H6.out.vH;rw[hbv,U2.out.1] at d2;simp only[Option.map_some] at d2;have k5:=(H6.out.pJ 5).1;simp only[dK,List.getElem?_cons_succ,List.getElem?_cons_zero,vN] at k5;have hE:=HE.out;rw[show n1-k=(n1-(k+1))+1 by omega,SM.lT,hy,hq,show gn (MM.sv M3).level q=lv by show gn M3.level.xs q=lv;rw[U2.out.2,jN]] at hE;have HE2:=zH hE;have HY:=zH hy;have q0:(0:Int)≤(q:Int):=by omega
         have q9:(q:Int)<(N:Int):=by omega
         have p0:(0:Int)≤(k:Int):=by omega
         have p1:(k:Int)<(n1:Int):=by omega
         clear hE hy hq jN hbv HE hb4
         go_upto_region 22 with fail
         go_quiet ((go_at_call 68;exact uJ qQ.out _))
         revert nq;intro nq1;have H7:=zH (H6.out.drewN nq1);have k5b:(wr.drewN nq1).cell? ⟨a0,5,none⟩=some (.int .i64 hh):=k5;clear k5 k1 k1b d1 d2 H6;revert H7 k5b;generalize wr.drewN nq1=w8;intro H7 k5b
         by_cases hlt:hh<lv
         ·have e5:decide ((hh:Int)<(lv:Int))=true:=by simp;omega
          have hE:=HE2.out;rw[if_pos hlt] at hE;have HE3:=zH hE;have f5:=(H7.out.pJ 5).2;have H8:=zH (H7.out.abe lv);clear hE
          go_upto_region 25 with fail
          clear f5 k5b;have H8b:=zH (show At B w0 (w8.setCell ⟨a0,5,none⟩ (.int .i64 lv)) p M3 (star (stars (aK p a0 ((A3.bq ⟨A3.lits.a,A3.lits.c,cs⟩).mK lv))) FF) from H8.out);clear H8 H7;revert H8b;generalize w8.setCell ⟨a0,5,none⟩ (.int .i64 lv)=w9;intro H8;have hb4:((A3.bq ⟨A3.lits.a,A3.lits.c,cs⟩).mK lv).lits.a=some bl:=HB3.out;have k9:=(H8.out.pJ 3).1;simp only[dK,List.getElem?_cons_succ,List.getElem?_cons_zero] at k9;rw[show ((A3.bq ⟨A3.lits.a,A3.lits.c,cs⟩).mK lv).lits.v=.slice (some ⟨bl,0,none⟩) (n1+1) A3.lits.c by unfold Fl.v;rw[show ((A3.bq ⟨A3.lits.a,A3.lits.c,cs⟩).mK lv).lits.a=some bl from HB3.out,show ((A3.bq ⟨A3.lits.a,A3.lits.c,cs⟩).mK lv).lits.xs.length=n1+1 from KL.out];rfl] at k9;obtain⟨y1,hy1⟩:∃ y,gn cs 1=y:=⟨_,rfl⟩;obtain⟨k2,f2⟩:=H8.out.DF hb4 (i:=1) (x:=y1) (by rw[←hy1];exact aM _ _ (by rw[KL.out];omega))
          obtain⟨k3,f3⟩:=H8.out.DF hb4 (i:=k+1) (x:=y) (by rw[←HY.out];exact aM _ _ hkx);simp only[vL] at k2 k3
          have nab:¬ bl=a0:=by
           have h9:=H8.out.vQ;rw[show ((A3.bq ⟨A3.lits.a,A3.lits.c,cs⟩).mK lv).lits.a=some bl from HB3.out] at h9;obtain⟨G,hG⟩:=H8.out.an.two (i:=0) (j:=3) (P:=pt a0 143 (dK p ((A3.bq ⟨A3.lits.a,A3.lits.c,cs⟩).mK lv))) (Q:=((A3.bq ⟨A3.lits.a,A3.lits.c,cs⟩).mK lv).lits.hp 98 vL) rfl rfl (by decide);unfold Fl.hp at hG;rw[show ((A3.bq ⟨A3.lits.a,A3.lits.c,cs⟩).mK lv).lits.a=some bl from HB3.out] at hG;exact fun e=>hG.sat.gW e.symm
          have h10:=((H8.out.Br hb4 (i:=1) (by show 1<cs.length;omega) y).Br (A:=((A3.bq ⟨A3.lits.a,A3.lits.c,cs⟩).mK lv).bq ⟨A3.lits.a,A3.lits.c,cs.set 1 y⟩) hb4 (i:=k+1) (by show k+1<(cs.set 1 y).length;rw[List.length_set];exact hkx) y1).drewN 1;have DJ:=zH (show At B w0 ((w9.setCell ⟨bl,1,none⟩ (.int .u32 y)).setCell ⟨bl,k+1,none⟩ (.int .u32 y1)).drew p M3 (star (stars (aK p a0 ((A3.bq ⟨A3.lits.a,A3.lits.c,(cs.set 1 y).set (k+1) y1⟩).mK lv))) FF) from h10);have i1:((k:Int)+1)<((n1+1:Nat):Int):=by omega
          have i2:(1:Int)<((n1+1:Nat):Int):=by omega
          have hsw:SM.dG cs 1 (k+1)=(cs.set 1 y).set (k+1) y1:=by unfold SM.dG;rw[HY.out,hy1]
          have HSW:=zH hsw
          have ag9:=zH (show ∀ x∈(cs.set 1 y).set (k+1) y1,x/2<N from fun x hx=>by
           rcases List.mem_or_eq_of_mem_set hx with h1 | h1
           ·rcases List.mem_or_eq_of_mem_set h1 with h2 | h2
            ·exact DC.out x h2
            ·rw[h2,←HY.out];exact DC.out _ (aU _ _ hkx)
           ·rw[h1,←hy1];exact DC.out _ (aU _ _ (by omega)))
          have HY1:=zH hy1;clear h10 hb4 hsw hy1 hkx
          by_cases hk0:k=0
          ·subst hk0;obtain rfl:y1=y:=HY1.out.symm.trans HY.out
           go_region
           go_wp2
           go_roundg (n1-(0+1))
           case measure=>have:=hg.out;omega
           case rel=>exact⟨0+1,lv,(cs.set 1 y1).set (0+1) y1,by go_num,by omega,zH (by rw[List.length_set,List.length_set];exact KL.out),rfl,DJ.out,ag9.out,zH (by rw[←HSW.out];exact HE3.out)⟩
          ·have hk1:¬ k+1=1:=by omega
           have hk2:¬ (1:Nat)=k+1:=by omega
           go_region
           go_wp2
           go_roundg (n1-(k+1))
           case measure=>have:=hg.out;omega
           case rel=>exact⟨k+1,lv,(cs.set 1 y).set (k+1) y1,by go_num,by omega,zH (by rw[List.length_set,List.length_set];exact KL.out),rfl,DJ.out,ag9.out,zH (by rw[←HSW.out];exact HE3.out)⟩
         ·have e5:decide ((hh:Int)<(lv:Int))=false:=by simp;omega
          go_wp2
          go_roundg (n1-(k+1))
          case measure=>have:=hg.out;omega
          case rel=>exact⟨k+1,hh,cs,by go_num,by omega,KL.out,rfl,H7.out,DC.out,zH (by have h9:=HE2.out;rw[if_neg hlt] at h9;exact h9)⟩
        ·obtain rfl:k=n1:=by omega
         have e2:decide ((k:Int)<(k:Int))=false:=by simp
         have hT:T=(cs,hh):=by have h9:=HE.out;rw[Nat.sub_self] at h9;exact h9.symm
         have HTC:=zH hT;obtain⟨A5,hA5⟩:∃ A5,(A3.bq ⟨A3.lits.a,A3.lits.c,cs⟩).mK hh=A5:=⟨_,rfl⟩;rw[hA5] at H6
         have h12:St B w0 wr (star (pt r0' 129 [.slice none 0 0,.slice none 0 0,.int .i64 0]) (star F (star (stars (aK p a0 A5)) (star (stars (parts p M3)) emp)))):=by
          refine H6.out.st.aB ?_;rw[←HFF.out,aQ]
          ac_rfl
         have k3:=(H6.out.pJ 3).1;have k4:=(H6.out.pJ 4).1;have k5:=(H6.out.pJ 5).1;simp only[dK,List.getElem?_cons_succ,List.getElem?_cons_zero,vN] at k3 k4 k5;obtain⟨y1,y2,y3,hv3⟩:∃ y1 y2 y3,A5.lits.v=.slice y1 y2 y3:=⟨_,_,_,rfl⟩;obtain⟨y4,y5,y6,hv4⟩:∃ y4 y5 y6,A5.fr.v=.slice y4 y5 y6:=⟨_,_,_,rfl⟩;rw[hv3] at k3;rw[hv4] at k4;have g0:=h12.aG 0;have g1:=h12.aG 1;have g2:=h12.aG 2;simp only[List.getElem?_cons_succ,List.getElem?_cons_zero] at g0 g1 g2;have f0:=h12.bU 0;have f1:=h12.bU 1;have f2:=h12.bU 2;have FE:=((h12.bM 0 (.slice y1 y2 y3)).bM 1 (.slice y4 y5 y6)).bM 2 (.int .i64 A5.jo);simp only[List.set_cons_succ,List.set_cons_zero] at FE;have Wo:=zH FE;have HA5:=zH hA5;have HV3:=zH hv3;have HV4:=zH hv4;clear h12 FE hT hA5 hv3 hv4 HE hg
         go_wp2
         rw[Exit.noGoto_ret];revert Wo;generalize ((wr.setCell ⟨r0',0,none⟩ (.slice y1 y2 y3)).setCell ⟨r0',1,none⟩ (.slice y4 y5 y6)).setCell ⟨r0',2,none⟩ (.int .i64 A5.jo)=w20;intro Wo;have j0:=Wo.out.aG 0;have j1:=Wo.out.aG 1;have j2:=Wo.out.aG 2;simp only[List.getElem?_cons_succ,List.getElem?_cons_zero] at j0 j1 j2;refine bodyPost_ret (Ii rfl _ ⟨r0',0,none⟩ rfl _ _ (Ij r0' w20 y1 y4 y2 y5 y3 y6 A5.jo j0 j1 j2)) rfl ?_;have hA6:A5.lits.xs=T.1∧A5.jo=T.2∧A5.fr.xs=A3.fr.xs:=by rw[HTC.out,←HA5.out];exact⟨rfl,rfl,rfl⟩
         have QX:At B w0 w20 p M3 (star (star (pt r0' 129 [.slice y1 y2 y3,.slice y4 y5 y6,.int .i64 A5.jo]) (star (pt a0 143 (dK p A5)) (star (A5.met.hp 4 vB) (A5.zero.hp 3 vN)))) (star (A5.lits.hp 98 vL) (star (A5.fr.hp 3 vI) F))):=by
          refine⟨Wo.out.aB ?_,by rw[←HM3.out];exact H.out.bA⟩;simp only[aK,kW,j6,aQ]
          ac_rfl
         refine⟨a1,a2,a3,u,st,A5.lits,A5.fr,?_,?_,?_,?_,?_⟩
         ·rw[HV3.out,HV4.out,Jh.out];dsimp only;rw[hA6.2.1]
         ·rw[HM3.out];exact QX.iL
         ·rw[HM3.out,Jh.out]
         ·rw[Jh.out];exact hA6.1
         ·rw[Jh.out];exact hA6.2.2
   ·have e7:decide ((o:Int)-1=0)=false:=by simp;omega
    obtain⟨o',rfl⟩:∃ o',o=o'+1:=⟨o-1,by omega⟩;have e8:decide ((o':Int)=0)=false:=by simp;omega
    obtain⟨r,g1,g2,g3,g4,g5,g6,g7,g8⟩:=Yl.out ho1;have hge:=Bt.out;rw[if_neg ho1,show gi (MM.sv (M.aP a1 a2 a3)).reason q=(r:Int) from g1] at hge;dsimp only at hge;rw[Int.toNat_natCast] at hge;have hrl:M.reason.xs.length=N:=by rw[←DI.out];exact fA.out.sz.reason
    obtain⟨br,hbr⟩:=H4.out.uF (by show 0<M.reason.xs.length;omega);obtain⟨d2,_⟩:=H4.out.qK hbr (i:=q) (x:=(r:Int)) (by rw[←g1];exact gT _ _ (by show q<M.reason.xs.length;omega));simp only[vI] at d2;have c2:=H4.out.nO;rw[hbr,show (M.aP a1 a2 a3).reason.xs.length=N from hrl] at c2;simp only[Option.map_some] at c2;have nQ:(MM.sv (M.aP a1 a2 a3)).cls.length=M.cls.xs.length:=by show (M.cls.xs.map _).length=_;rw[List.length_map]
    rw[nQ] at g2;obtain⟨⟨r2,tQ⟩,hi2⟩:∃ x,(M.aP a1 a2 a3).cls.xs[r]?=some x:=⟨M.cls.xs[r],by simp[g2]⟩;obtain⟨_,o2⟩:=H4.out.wI HBC.out hi2;have c3:=H4.out.uz;rw[HBC.out,show (M.aP a1 a2 a3).cls.xs.length=nc from Tt.out] at c3;simp only[Option.map_some] at c3;obtain⟨_,q2⟩:=Cq hi2;obtain⟨nf,hnf⟩:∃ n,A'.fr.xs.length=n:=⟨_,rfl⟩;have k7:=(H4.out.pJ 4).1;simp only[dK,List.getElem?_cons_succ,List.getElem?_cons_zero] at k7;rw[show A'.fr.v=.slice (A'.fr.a.map fun b=>⟨b,0,none⟩) nf A'.fr.c by unfold Fl.v;rw[hnf]] at k7;have htf:=H4.out.acT;rw[hnf] at htf;have hnfb:nf≤1000000:=by rw[←hnf];exact g7
    have r0:(0:Int)≤(r:Int):=by omega
    have r1:(r:Int)<(nc:Int):=by rw[←Tt.out];omega
    rw[q2] at hge g8;have HTF:=zH htf;have HNF:=zH hnf;have QW:=zH hge;have HG8:=zH g8;have HI2:=zH hi2;have HGA:=zH (show r<M.cls.xs.length∧((MM.sv (M.aP a1 a2 a3)).cl r).length≤100000∧(∀ x∈(MM.sv (M.aP a1 a2 a3)).cl r,x/2<(MM.sv (M.aP a1 a2 a3)).value.length)∧A'.am.zero.length≤1000000∧A'.am.lits.length≤1000000 from⟨g2,g3,g4,g5,g6⟩);clear hge g1 g2 g3 g4 g5 g6 g7 g8 hbr hi2 hnf htf q2 nQ hrl Bt Yl
    go_upto_region 11 with fail
    go_quiet ((go_at_call 68;exact uJ qQ.out _))
    revert nq;intro Ym;have H5:=zH (H4.out.drewN Ym);have abp:=zH (HTF.out.drewN Ym);have c3b:(w6.drewN Ym).cell? ⟨p,5,none⟩=some (Value.slice (some ⟨bc,0,none⟩) nc M.cls.c):=c3;have o2b:(w6.drewN Ym).cell? ⟨bc,r*2+1,none⟩=some (Value.int .i64 tQ):=o2;have k7b:(w6.drewN Ym).cell? ⟨a0,4,none⟩=some (Value.slice (A'.fr.a.map fun b=>⟨b,0,none⟩) nf A'.fr.c):=k7;clear c2 d2 c3 o2 k7 HTF H4
    go_upto_region 12 with fail
    revert H5 abp c3b o2b k7b;generalize w6.drewN Ym=w7;intro H5 abp c3b o2b k7b;refine dn 19 (fun V:World=>V.cell? ⟨a0,4,none⟩=some (Value.slice (A'.fr.a.map fun b=>⟨b,0,none⟩) nf A'.fr.c)∧V.cell? ⟨p,5,none⟩=some (Value.slice (some ⟨bc,0,none⟩) nc M.cls.c)∧V.cell? ⟨bc,r*2+1,none⟩=some (Value.int .i64 tQ)) (by kernel_rfl) ?_;have bB:(fun V:World=>V.cell? ⟨a0,4,none⟩=some (Value.slice (A'.fr.a.map fun b=>⟨b,0,none⟩) nf A'.fr.c)∧V.cell? ⟨p,5,none⟩=some (Value.slice (some ⟨bc,0,none⟩) nc M.cls.c)∧V.cell? ⟨bc,r*2+1,none⟩=some (Value.int .i64 tQ)) w7.drew:=⟨k7b,c3b,o2b⟩;refine ay (i:=0) (v:=?v9) rfl (by kernel_rfl) (by kernel_rfl) (by kernel_rfl) (by kernel_rfl) (fun _ _ _ h=>h) rfl ?hy9 bB ?_
    case hy9 =>
     intro V aF
     try dsimp only at aF
     first | (obtain⟨aS,aT,cK⟩:=aF) | (obtain⟨aS,aT⟩:=aF) | skip
     go_simp
     try with_reducible rfl
    try simp only[Act.put,List.setIfInBounds_toArray,List.set_cons_zero,List.set_cons_succ]
    refine ay (i:=1) (v:=?v10) rfl (by kernel_rfl) (by kernel_rfl) (by kernel_rfl) (by kernel_rfl) (fun _ _ _ h=>h) rfl ?KG bB ?_
    case KG =>
     intro V aF
     try dsimp only at aF
     first | (obtain⟨aS,aT,cK⟩:=aF) | (obtain⟨aS,aT⟩:=aF) | skip
     go_simp
     try with_reducible rfl
    try simp only[Act.put,List.setIfInBounds_toArray,List.set_cons_zero,List.set_cons_succ]
    refine ay (i:=2) (v:=?v11) rfl (by kernel_rfl) (by kernel_rfl) (by kernel_rfl) (by kernel_rfl) (fun _ _ _ h=>h) rfl ?KH bB ?_
    case KH =>
     intro V aF
     try dsimp only at aF
     first | (obtain⟨aS,aT,cK⟩:=aF) | (obtain⟨aS,aT⟩:=aF) | skip
     go_simp
     try with_reducible rfl
    try simp only[Act.put,List.setIfInBounds_toArray,List.set_cons_zero,List.set_cons_succ]
    refine ay (i:=3) (v:=?v12) rfl (by kernel_rfl) (by kernel_rfl) (by kernel_rfl) (by kernel_rfl) (fun _ _ _ h=>h) rfl ?Qy bB ?_
    case Qy =>
     intro V aF
     try dsimp only at aF
     first | (obtain⟨aS,aT,cK⟩:=aF) | (obtain⟨aS,aT⟩:=aF) | skip
     go_simp
     try with_reducible rfl
    try simp only[Act.put,List.setIfInBounds_toArray,List.set_cons_zero,List.set_cons_succ]
    refine ay (i:=4) (v:=?v13) rfl (by kernel_rfl) (by kernel_rfl) (by kernel_rfl) (by kernel_rfl) (fun _ _ _ h=>h) rfl ?Qz bB ?_
    case Qz =>
     intro V aF
     try dsimp only at aF
     first | (obtain⟨aS,aT,cK⟩:=aF) | (obtain⟨aS,aT⟩:=aF) | skip
     go_simp
     try with_reducible rfl
    try simp only[Act.put,List.setIfInBounds_toArray,List.set_cons_zero,List.set_cons_succ]
    refine ay (i:=5) (v:=?v14) rfl (by kernel_rfl) (by kernel_rfl) (by kernel_rfl) (by kernel_rfl) (fun _ _ _ h=>h) rfl ?QA bB ?_
    case QA =>
     intro V aF
     try dsimp only at aF
     first | (obtain⟨aS,aT,cK⟩:=aF) | (obtain⟨aS,aT⟩:=aF) | skip
     go_simp
     try with_reducible rfl
    try simp only[Act.put,List.setIfInBounds_toArray,List.set_cons_zero,List.set_cons_succ]
    refine ay (i:=6) (v:=?v15) rfl (by kernel_rfl) (by kernel_rfl) (by kernel_rfl) (by kernel_rfl) (fun _ _ _ h=>h) rfl ?QB bB ?_
    case QB =>
     intro V aF
     try dsimp only at aF
     first | (obtain⟨aS,aT,cK⟩:=aF) | (obtain⟨aS,aT⟩:=aF) | skip
     go_simp
     try with_reducible rfl
    try simp only[Act.put,List.setIfInBounds_toArray,List.set_cons_zero,List.set_cons_succ]
    refine ay (i:=7) (v:=?v16) rfl (by kernel_rfl) (by kernel_rfl) (by kernel_rfl) (by kernel_rfl) (fun _ _ _ h=>h) rfl ?QC bB ?_
    case QC =>
     intro V aF
     try dsimp only at aF
     first | (obtain⟨aS,aT,cK⟩:=aF) | (obtain⟨aS,aT⟩:=aF) | skip
     go_simp
     try with_reducible rfl
    try simp only[Act.put,List.setIfInBounds_toArray,List.set_cons_zero,List.set_cons_succ]
    refine ay (i:=8) (v:=?v17) rfl (by kernel_rfl) (by kernel_rfl) (by kernel_rfl) (by kernel_rfl) (fun _ _ _ h=>h) rfl ?QD bB ?_
    case QD =>
     intro V aF
     try dsimp only at aF
     first | (obtain⟨aS,aT,cK⟩:=aF) | (obtain⟨aS,aT⟩:=aF) | skip
     go_simp
     try with_reducible rfl
    try simp only[Act.put,List.setIfInBounds_toArray,List.set_cons_zero,List.set_cons_succ]
    refine ay (i:=9) (v:=?v18) rfl (by kernel_rfl) (by kernel_rfl) (by kernel_rfl) (by kernel_rfl) (fun _ _ _ h=>h) rfl ?QE bB ?_
    case QE =>
     intro V aF
     try dsimp only at aF
     first | (obtain⟨aS,aT,cK⟩:=aF) | (obtain⟨aS,aT⟩:=aF) | skip
     go_simp
     try with_reducible rfl
    try simp only[Act.put,List.setIfInBounds_toArray,List.set_cons_zero,List.set_cons_succ]
    refine ay (i:=10) (v:=?v19) rfl (by kernel_rfl) (by kernel_rfl) (by kernel_rfl) (by kernel_rfl) (fun _ _ _ h=>h) rfl ?QF bB ?_
    case QF =>
     intro V aF
     try dsimp only at aF
     first | (obtain⟨aS,aT,cK⟩:=aF) | (obtain⟨aS,aT⟩:=aF) | skip
     go_simp
     try with_reducible rfl
    try simp only[Act.put,List.setIfInBounds_toArray,List.set_cons_zero,List.set_cons_succ]
    refine ay (i:=11) (v:=?v20) rfl (by kernel_rfl) (by kernel_rfl) (by kernel_rfl) (by kernel_rfl) (fun _ _ _ h=>h) rfl ?QG bB ?_
    case QG =>
     intro V aF
     try dsimp only at aF
     first | (obtain⟨aS,aT,cK⟩:=aF) | (obtain⟨aS,aT⟩:=aF) | skip
     go_simp
     try with_reducible rfl
    try simp only[Act.put,List.setIfInBounds_toArray,List.set_cons_zero,List.set_cons_succ]
    refine ay (i:=12) (v:=?v21) rfl (by kernel_rfl) (by kernel_rfl) (by kernel_rfl) (by kernel_rfl) (fun _ _ _ h=>h) rfl ?QH bB ?_
    case QH =>
     intro V aF
     try dsimp only at aF
     first | (obtain⟨aS,aT,cK⟩:=aF) | (obtain⟨aS,aT⟩:=aF) | skip
     go_simp
     try with_reducible rfl
    try simp only[Act.put,List.setIfInBounds_toArray,List.set_cons_zero,List.set_cons_succ]
    refine ay (i:=13) (v:=?v22) rfl (by kernel_rfl) (by kernel_rfl) (by kernel_rfl) (by kernel_rfl) (fun _ _ _ h=>h) rfl ?QI bB ?_
    case QI =>
     intro V aF
     try dsimp only at aF
     first | (obtain⟨aS,aT,cK⟩:=aF) | (obtain⟨aS,aT⟩:=aF) | skip
     go_simp
     try with_reducible rfl
    try simp only[Act.put,List.setIfInBounds_toArray,List.set_cons_zero,List.set_cons_succ]
    refine bf (i:=14) (by kernel_rfl) rfl (fun K hK=>?_)
    go_simp
    refine hK _ _ (⟨(World.cell?_alloc_some w7.drew _ (Obj.cells #[Value.int IntKind.i64 tQ] 3) (by rw[bB.1];rfl)).trans bB.1,(World.cell?_alloc_some w7.drew _ (Obj.cells #[Value.int IntKind.i64 tQ] 3) (by rw[bB.2.1];rfl)).trans bB.2.1,(World.cell?_alloc_some w7.drew _ (Obj.cells #[Value.int IntKind.i64 tQ] 3) (by rw[bB.2.2];rfl)).trans bB.2.2⟩) ?_;clear hK K
    try simp only[Act.put,List.setIfInBounds_toArray,List.set_cons_zero,List.set_cons_succ]
    refine bf (i:=15) (by kernel_rfl) rfl (fun K hK=>?_);refine bN (by rfl) _ _ 27 3 (.int .i64 0) 8 (by rfl) Tryz.underlying27 Tryz.bW rfl (abp.out.drew.alloc _) (by rfl) w7.heap.size (.int .i64 tQ) (by rfl) (fJ w7.drew _ _) rfl (by omega) (by simp only[maxLen];omega) ?_;intro b' c' w8 hs _;obtain⟨⟨k8,f8⟩,k9⟩:=At.MQ (M:=M.aP a1 a2 a3) (A:=A') (x:=tQ) H5.out.bA HNF.out hs;have hs2:At B w0 w8 p (M.aP a1 a2 a3) (star (sl (some b') (nf+1) c' 3 1 (A'.fr.xs.map vI++[vI tQ])) (star (stars ((aK p a0 A').eraseIdx 4)) FF)):=⟨hs.aB (by ac_rfl),H5.out.bA⟩;have c3c:=hs2.uz;rw[HBC.out,show (M.aP a1 a2 a3).cls.xs.length=nc from Tt.out] at c3c;simp only[Option.map_some] at c3c;obtain⟨_,o2c⟩:=hs2.wI HBC.out HI2.out
    have HS2:(fun V:World=>V.cell? ⟨a0,4,none⟩=some (Value.slice (A'.fr.a.map fun b=>⟨b,0,none⟩) nf A'.fr.c)∧V.cell? ⟨p,5,none⟩=some (Value.slice (some ⟨bc,0,none⟩) nc M.cls.c)∧V.cell? ⟨bc,r*2+1,none⟩=some (Value.int .i64 tQ)) w8:=⟨k8,c3c,o2c⟩;have H9:=zH k9;clear hs hs2 k9;refine hK _ _ HS2 ?_;clear hK K
    try simp only[Act.put,List.setIfInBounds_toArray,List.set_cons_zero,List.set_cons_succ]
    refine bf (i:=16) (by kernel_rfl) rfl (fun K hK=>?_)
    go_simp
    refine hK _ _ (HS2) ?_;clear hK K
    try simp only[Act.put,List.setIfInBounds_toArray,List.set_cons_zero,List.set_cons_succ]
    refine bf (i:=17) (by kernel_rfl) rfl (fun K hK=>?_)
    go_simp
    refine hK _ _ (HS2) ?_;clear hK K
    try simp only[Act.put,List.setIfInBounds_toArray,List.set_cons_zero,List.set_cons_succ]
    refine bf (i:=18) (by kernel_rfl) rfl (fun K hK=>?_)
    go_simp
    refine hK _ _ (HS2) ?_;clear hK K
    try simp only[Act.put,List.setIfInBounds_toArray,List.set_cons_zero,List.set_cons_succ]
    refine iy (by kernel_rfl) rfl (by kernel_rfl) (fun K hK=>?_)
    go_simp
    refine hK _ _ ?_;clear hK K;clear bB HS2 c3b o2b k7b c3c o2c k8 f8 abp H5;revert H9;generalize w8.setCell ⟨a0,4,none⟩ (.slice (some ⟨b',0,none⟩) (nf+1) c')=w9;intro H9;have hmt:=Je r l H9.out HV.out (by show M.level.xs.length=M.value.xs.length;rw[DI.out,←DI.out];exact fA.out.sz.level) (by rw[show (M.aP a1 a2 a3).value.xs.length=N from DI.out];exact HA.out.1) HGA.out.1 HGA.out.2.2.1 HGA.out.2.1 HGA.out.2.2.2.1 HGA.out.2.2.2.2;have hinv:=kg l ((MM.sv (M.aP a1 a2 a3)).cl r) (A:=(A'.qV ⟨some b',c',A'.fr.xs++[tQ]⟩).am) (n:=0) HV.out HGA.out.2.2.1
    change bG (SM.meets (MM.sv (M.aP a1 a2 a3)) (A'.qV ⟨some b',c',A'.fr.xs++[tQ]⟩).am r l).1∧(SM.meets (MM.sv (M.aP a1 a2 a3)) (A'.qV ⟨some b',c',A'.fr.xs++[tQ]⟩).am r l).1.value=_∧(SM.meets (MM.sv (M.aP a1 a2 a3)) (A'.qV ⟨some b',c',A'.fr.xs++[tQ]⟩).am r l).2.1.met.length=_∧(SM.meets (MM.sv (M.aP a1 a2 a3)) (A'.qV ⟨some b',c',A'.fr.xs++[tQ]⟩).am r l).2.2≤_∧(SM.meets (MM.sv (M.aP a1 a2 a3)) (A'.qV ⟨some b',c',A'.fr.xs++[tQ]⟩).am r l).2.1.fr=_ at hinv;have hg8:=HG8.out;have hge:=QW.out;change jC i (SM.meets (MM.sv (M.aP a1 a2 a3)) (A'.qV ⟨some b',c',A'.fr.xs++[tQ]⟩).am r l).1 (SM.meets (MM.sv (M.aP a1 a2 a3)) (A'.qV ⟨some b',c',A'.fr.xs++[tQ]⟩).am r l).2.1 (o'+(SM.meets (MM.sv (M.aP a1 a2 a3)) (A'.qV ⟨some b',c',A'.fr.xs++[tQ]⟩).am r l).2.2) at hg8
    change SM.dY i (SM.meets (MM.sv (M.aP a1 a2 a3)) (A'.qV ⟨some b',c',A'.fr.xs++[tQ]⟩).am r l).1 (SM.meets (MM.sv (M.aP a1 a2 a3)) (A'.qV ⟨some b',c',A'.fr.xs++[tQ]⟩).am r l).2.1 (o'+(SM.meets (MM.sv (M.aP a1 a2 a3)) (A'.qV ⟨some b',c',A'.fr.xs++[tQ]⟩).am r l).2.2)=L1 at hge;obtain⟨R,hR⟩:∃ R,SM.meets (MM.sv (M.aP a1 a2 a3)) (A'.qV ⟨some b',c',A'.fr.xs++[tQ]⟩).am r l=R:=⟨_,rfl⟩;rw[hR] at hmt hinv hg8 hge;obtain⟨y,hy⟩:∃ y,R.2.2=y:=⟨_,rfl⟩;rw[hy] at hmt hinv hg8 hge
    obtain⟨j,rfl⟩:∃ j,i=j+1:=by
     cases i with
     | zero=>exact hg8.elim
     | succ j=>exact⟨j,rfl⟩
    have hyb:y≤100000:=by have:=hinv.2.2.2.1;have:=HGA.out.2.1;omega
    have aha:=zH hinv;have HG9:=zH hg8;have alh:=zH hge;have Hu:=zH hmt;clear hmt hinv hg8 hge hR hy QW HG8
    go_wp2_with fail
    refine Hu.out.mono ?_
    rintro e w10 ⟨rfl,x1,x2,x3,A4,h10,h11,h12,FE⟩
    have DJ:=zH (show At B w0 w10 p (M.aP x1 x2 x3) (star (stars (aK p a0 A4)) FF) from h10);have aei:=zH (show MM.sv (M.aP x1 x2 x3)=R.1 from h11);have aej:=zH h12;have ali:=zH (show A4.jo=0 from FE.trans HA.out.2);clear h10 h11 h12 FE Hu
    go_wp2
    go_roundg j
    case measure=>have:=hg.out;omega
    case rel=>exact⟨j,o'+y,x1,x2,x3,A4,by go_num,by go_num,by omega,by omega,rfl,DJ.out,zH (by rw[aei.out];exact aha.out.1),⟨by have h9:=aha.out.2.2.1;rw[←aej.out] at h9;exact h9.trans HA.out.1,ali.out⟩,zH (by rw[aei.out,aej.out];exact HG9.out),zH (by rw[aei.out,aej.out];exact alh.out)⟩
end
end Go.Proofs.YthbbmdnfkkffjaaGreat

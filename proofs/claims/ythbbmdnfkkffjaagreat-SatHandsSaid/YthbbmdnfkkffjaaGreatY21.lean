/-
  Parts of the proof, joined by program: Ref0, Ref, Get.
-/
import Derived.Test.YthbbmdnfkkffjaaGreatY18
import Derived.Test.YthbbmdnfkkffjaaGreatY20
import Derived.Test.YthbbmdnfkkffjaaGreatY08
import Derived.Test.YthbbmdnfkkffjaaGreatY01
import Derived.Lib.Hide
set_option maxHeartbeats 8000000
set_option maxRecDepth 100000
namespace Go.Proofs.aC
open Go Go.RowKit Go.Maps
open Go.WideElems (Fit rd rg pl rd_val elemAt)
section
variable {P:Program} {k e t:TypeId} {B b n:Nat} {w w' w0:World} {f:Int→Int} {F:HP}
theorem zZ {H:Type} {P:Program} (w:World) {ops:Array Oper} {rest:List Oper} {o:Oper} {a:Act} {Q:Exit→Act→World→Prop}
  (hg:o.guard=none) (m x v:Operand) (t:TypeId) (hop:o.op=Op.insert t m x v)
  (k e:TypeId) (K:Keyed P k) (ht:P.underlying t=some (.map k e)) (R:Value→Option (DataW H×List MemPlace)) (b n:Nat) (D:DataW H)
  (hm:a.eval m=.map (some b)) (hown:w.ownsMap P k R b n D) (hn:n<maxLen) (key val:Value) (kl:Lit) (hx:a.eval x=key) (hv:a.eval v=val) (hkey:keyOf P k key=some kl)
  (d:DataW H) (ps:List MemPlace) (hval:R val=some (d,ps))
  (hK:∀ w',w'.ownsMap P k R b (n+1) (D.put kl d)→w.grownBy w' (some b)→wpList P ops Q rest (a.put o.dst undef) w') :
  wpList P ops Q (o :: rest) a w:=by
 refine wpList_plain hg fun K' hK'=>?_;obtain⟨w',hrun,r1,r2⟩:=hown.update K ht hn hkey hval;unfold Oper.wp;simp[execOp,hop,hm,hx,hv,hrun,Result.andThen];exact hK' _ _ (hK w' r1 r2)
theorem FQ {ops:Array Oper} {rest:List Oper} {o:Oper} {a:Act} {Q:Exit→Act→World→Prop} (hg:o.guard=none) (m x v:Operand) (hop:o.op=Op.insert t m x v)
  (h:St B w0 w (star (mp P k e b n f) F)) (K:Keyed P k) (ht:P.underlying t=some (.map k e)) (hk:P.underlying k=some (.int .i64)) (he:P.underlying e=some (.int .i64)) (hn:n<maxLen)
  (y z:Int) (hm:a.eval m=.map (some b)) (hx:a.eval x=.int .i64 y) (hv:a.eval v=.int .i64 z) (hy:(Lit.int .i64 y).wf=true) (hzw:(Lit.int .i64 z).wf=true)
  (hK:∀ w',St B w0 w' (star (mp P k e b (n+1) (upd f y z)) F)→wpList P ops Q rest (a.put o.dst undef) w') :
  wpList P ops Q (o :: rest) a w:=by
 obtain⟨D,ho,ha,hB⟩:=h.sat.Q8;refine zZ w hg m x v t hop k e K ht _ b n D hm ho hn _ _ (.int .i64 y) hx hv (keyOf_int_mk hk hy) (.lit (.int .i64 z)) [] (plainElem_int he hzw) ?_;intro w' h1 h2;refine hK w' ⟨h.below.trans ⟨h2.os,h2.tape,h2.output,h2.size,fun i hi=>h2.block i (Nat.lt_of_lt_of_le hi h.base) (by simp;omega)⟩,Nat.le_trans h.base h2.size,h.sat.YA h2 h1 ?_⟩;intro u
 by_cases hu:u=y
 ·subst hu;rw[show upd f u z u=z from if_pos rfl];obtain⟨es,clock,_,_,_,rfl⟩:=ho;exact Maps.atKey_put_same ⟨_,rfl⟩ (by trivial) _ _
 ·rw[show upd f y z u=f u from if_neg hu,Maps.atKey_put_other (by simpa using hu),ha u]
end
def fM (B:Nat) (w0:World) (F:HP) (A:Option Addr) (n:Nat) (xs:List Int):Prop:=∀ (w:World) (P:HP),St B w0 w (star P F)→Rd w A n xs
end Go.Proofs.aC
namespace Go.Proofs.YthbbmdnfkkffjaaGreat
open Go.RowKit Go.Maps Go.Proofs.aC Go.Proofs.au Go.Proofs.aA
theorem Tryz.DK:Keyed Tryz.prog 3:=int_keyed Tryz.underlying3
theorem Tryz.YC (w:World):(zeroValue 3).run Tryz.prog w=.ok (.int .i64 0) w:=by kernel_rfl
theorem KS {x:Int} (h:x.natAbs≤1000000):(Lit.int .i64 x).wf=true:=by
 have e1:IntKind.i64.min=-9223372036854775808:=by decide
 have e2:IntKind.i64.max=9223372036854775807:=by decide
 simp only[Lit.wf,e1,e2,Bool.and_eq_true,decide_eq_true_eq];omega
section
variable {B:Nat} {w0 w:World} {p:Nat} {M:MM} {F:HP}
theorem At.rd {A:Option Addr} {n:Nat} {xs:List Int} (hk:fM B w0 F A n xs) {Y:HP} (h:At B w0 w p M (star Y F)):Rd w A n xs:=hk w (star (stars (parts p M)) Y) (h.st.aB (by ac_rfl))
theorem At.YD {A:Option Addr} {n:Nat} {xs:List Int} (hk:fM B w0 F A n xs) (h:At B w0 w p M F):Rd w A n xs:=hk w (stars (parts p M)) h.st
theorem fM.more {A:Option Addr} {n:Nat} {xs:List Int} (h:fM B w0 F A n xs) (Y:HP):fM B w0 (star Y F) A n xs:=fun w P k=>h w (star P Y) (k.aB (by ac_rfl))
structure aev (S:SM) (assume:List Int) (l:Nat) (Z:Nat→Prop) (rk:Nat→Nat):Prop where
 small:S.value.length≤100000
 sz:Sz S
 cls:S.cls.length≤1000000
 trl:S.trail.length≤900000
 tr:∀ x∈S.trail,x/2<S.value.length
 l:l/2<S.value.length
 lits:∀ a∈assume,a.natAbs≤65536
 len:assume.length≤1000000
 r:∀ x∈S.trail,gn S.level (x/2)≠0→gi S.reason (x/2)=-1∨∃ r:Nat,gi S.reason (x/2)=r∧r<S.cls.length∧(S.cl r).length≤100000∧∀ y∈S.cl r,y/2<S.value.length
 z:∀ x∈S.trail,gn S.level (x/2)=0→Z (x/2)
 un:zG S Z rk
 rk:∀ v,Z v→rk v<S.value.length
def P9 (mt:Fl Bool) (b n:Nat) (f:Int→Int) (zr:Fl Nat) (fr:Fl Int) (F:HP):HP:=star (mt.hp 4 vB) (star (mp Tryz.prog 3 3 b n f) (star (zr.hp 3 vN) (star (fr.hp 3 vI) F)))
theorem aew (mt:Fl Bool) (b n:Nat) (f:Int→Int) (zr:Fl Nat) (fr:Fl Int) (F:HP):P9 mt b n f zr fr F=star (mp Tryz.prog 3 3 b n f) (star (mt.hp 4 vB) (star (zr.hp 3 vN) (star (fr.hp 3 vI) F))):=by unfold P9;ac_rfl
theorem Q9 (mt:Fl Bool) (b n:Nat) (f:Int→Int) (zr:Fl Nat) (fr:Fl Int) (F:HP):P9 mt b n f zr fr F=star (zr.hp 3 vN) (star (mt.hp 4 vB) (star (mp Tryz.prog 3 3 b n f) (star (fr.hp 3 vI) F))):=by unfold P9;ac_rfl
theorem KT (mt:Fl Bool) (b n:Nat) (f:Int→Int) (zr:Fl Nat) (fr:Fl Int) (F:HP):P9 mt b n f zr fr F=star (fr.hp 3 vI) (star (mt.hp 4 vB) (star (mp Tryz.prog 3 3 b n f) (star (zr.hp 3 vN) F))):=by unfold P9;ac_rfl
def DL (g assume:List Int):List Int:=SM.jY g [] assume
def gF (g out:List Int):Int→Int:=fun u=>if u∈out then 2 else if u∈g then 1 else 0
theorem Nf (l:Nat):(bI l).natAbs=l/2:=by unfold bI;split <;> omega
end
section
variable {B:Nat} {w0 w:World} {p:Nat} {M:MM} {F:HP}
theorem Ng {Z:Nat→Prop} {rk:Nat→Nat} (A:Option Addr) (na ca:Nat) (assume:List Int) (l:Nat) (h:At B w0 w p M F) (hst:fM B w0 F A na assume) (hok:aev M.sv assume l Z rk) :
  Calls Tryz.prog 91 #[.pointer (some ⟨p,0,none⟩),.slice A na ca,.int .u32 l] w fun e w'=>e=.returned (.tuple #[])∧∃ M',At B w0 w' p M' F∧M'.sv=M.sv.refused assume l:=by
 have hmm:=@run_makeMap Tryz.prog;obtain⟨N,hN⟩:∃ N,M.value.xs.length=N:=⟨_,rfl⟩;have hsm:N≤100000:=by rw[←hN];exact hok.small
 have c4:=h.kI;obtain⟨va,hva⟩:∃ va,(M.value.a.map fun b=>(⟨b,0,none⟩:Addr))=va:=⟨_,rfl⟩;rw[hN,hva] at c4;have hlv:=hok.l;rw[show M.sv.value.length=N from hN] at hlv;obtain⟨q,hq⟩:∃ q,l/2=q:=⟨_,rfl⟩;have hvv:=fun V=>pQ l V (show l<1000000 by omega);have hnu:=fun V=>yh l V (show l<1000000 by omega);have hnw:=KS (x:=bI l) (by rw[Nf];omega);rw[hq] at hvv hlv;have qQ:=zH hvv;have HNU:=zH hnu;have AZ:=zH hnw;have HST:=zH hst;have fA:=zH hok;have DI:=zH hN;have HQ:=zH hq;have HH:=zH h.st;have fP:=zH h.bA;clear h hst hok hN hva hq hvv hnu hnw
 go_enter Tryz.func91,Tryz.ntmps91
 go_upto_region 1 with (at_make;refine lX rfl _ _ 84 4 (.bool false) 1 rfl Tryz.underlying84 Tryz.qO rfl N _ rfl rfl rfl (by omega) (by unfold maxLen;omega) (by omega) HH.out ?_;intro mb w1 h1;have H1:=zH h1;clear h1)
 have H2:=zH (show At B w0 w1 p M (star ((⟨some mb,N,List.replicate N false⟩:Fl Bool).hp 4 vB) F) from⟨H1.out.aB (by unfold Fl.hp;simp only[List.length_replicate,List.map_replicate,vB];ac_rfl),fP.out⟩);clear H1 HH c4;obtain⟨k1,f1⟩:=H2.out.FC rfl (j:=q) (x:=false) (by show (List.replicate N false)[q]?=_;simp[hlv]);simp only[vB] at k1;have q0:(0:Int)≤(q:Int):=by omega
 have q1:(q:Int)<(N:Int):=by omega
 go_wp2_with fail
 refine (qQ.out _).mono ?_
 rintro e w2 ⟨rfl,rfl⟩
 go_upto_region 2 with fail
 have H3:=zH (show At B w0 (w1.setCell ⟨mb,q,none⟩ (.bool true)) p M (star ((⟨some mb,N,(List.replicate N false).set q true⟩:Fl Bool).hp 4 vB) F) from H2.out.agQ (b:=mb) rfl (by show q<(List.replicate N false).length;simp[hlv]) true);clear k1 f1 H2 qQ;revert H3;generalize w1.setCell ⟨mb,q,none⟩ (.bool true)=w2;intro H3;have H4:=zH (St.YB (P:=Tryz.prog) (k:=3) (e:=3) H3.out.st);obtain⟨bm,yZ⟩:∃ b,w2.heap.size=b:=⟨_,rfl⟩;rw[yZ] at H4
 go_wp2_with fail
 refine (HNU.out _).mono ?_
 rintro e w3 ⟨rfl,rfl⟩
 try rw[yZ]
 go_upto_region 3 with (refine FQ rfl _ _ _ rfl H4.out Tryz.DK Tryz.underlying102 Tryz.underlying3 Tryz.underlying3 (by decide) (bI l) 1 rfl rfl rfl AZ.out (by decide) ?_;intro w4 h4;have H5:=zH h4;clear h4)
 have h6:At B w0 w4 p M (P9 ⟨some mb,N,(List.replicate N false).set q true⟩ bm 1 (gF [bI l] []) ⟨none,0,[]⟩ ⟨none,0,[]⟩ F):=by
  have e1:upd (fun _=>0) (bI l) 1=gF [bI l] []:=by
   funext u
   unfold upd gF
   by_cases hu:u=bI l <;> simp[hu]
  have h5:=H5.out;rw[e1] at h5;refine⟨h5.aB ?_,fP.out⟩;unfold P9;rw[show (⟨none,0,[]⟩:Fl Nat).hp 3 vN=emp from gK _ _,show (⟨none,0,[]⟩:Fl Int).hp 3 vI=emp from gK _ _,iA,iA]
  ac_rfl
 have H6:=zH h6;clear H5 H4 H3 h6 yZ HNU AZ hmm;have c12:=H6.out.jV;obtain⟨nt,hnt⟩:∃ n,M.trail.xs.length=n:=⟨_,rfl⟩;rw[hnt] at c12;have htb:nt≤900000:=by rw[←hnt];exact fA.out.trl
 have wJ:=zH hnt;obtain⟨G,hG⟩:∃ G,M.sv.fZ nt ((List.replicate N false).set q true) [bI l] [] []=G:=⟨_,rfl⟩
 have HGD:=zH (show M.sv.refused assume l={ (M.sv.bH G.2.2 G.2.1).1 with core:=DL G.1 assume,last:=(M.sv.bH G.2.2 G.2.1).2,told:=2 } by
  unfold SM.refused;rw[show M.sv.trail.length=nt from hnt,show M.sv.value.length=N from DI.out,HQ.out,hG]
  rfl)
 have HGG:=zH hG;clear hnt hG
 go_wp2
 clear c12
 go_loopg [8,9,10] nt (fun gk s8 s9 s10 wr=>∃ (z:Int) (j nf nz ng:Nat) (mt:Fl Bool) (zr:Fl Nat) (fr:Fl Int) (g:List Int),s8=.slice (fr.a.map fun b=>⟨b,0,none⟩) nf fr.c∧s9=.slice (zr.a.map fun b=>⟨b,0,none⟩) nz zr.c∧s10=.int .i64 z∧z=(j:Int)-1∧j≤nt∧nf≤nt-j∧nz≤nt-j∧ng≤nt-j+1 ∧
  Hid (fr.xs.length=nf∧zr.xs.length=nz∧mt.xs.length=N∧mt.a=some mb∧(fr.xs=[]→fr.a=none)∧∀ v∈zr.xs,Z v)∧Hid (gk=j)∧Hid (At B w0 wr p M (P9 mt bm ng (gF g []) zr fr F))∧Hid (M.sv.fZ j mt.xs g fr.xs zr.xs=G))
 case atStart=>exact⟨_,nt,0,0,1,⟨some mb,N,(List.replicate N false).set q true⟩,⟨none,0,[]⟩,⟨none,0,[]⟩,[bI l],rfl,rfl,by go_num,rfl,Nat.le_refl _,by omega,by omega,by omega,⟨rfl,rfl,by simp,rfl,fun _=>rfl,by simp⟩,rfl,H6.out,HGG.out⟩
 case round =>
  clear H6 HGG;obtain⟨z,j,nf,nz,ng,mt,zr,fr,g,rfl,rfl,rfl,hz,hjn,hnf,hnz,hng,HL,hg,H3,HE⟩:=hrel
  cases j with
  | zero =>
   obtain rfl:z=-1:=by omega
   clear hz;have e2:decide ((0:Int)≤-1)=false:=by simp
   have hG:G=(g,fr.xs,zr.xs):=HE.out.symm;obtain⟨Q,hQ⟩:∃ Q,M.sv.bH zr.xs fr.xs=Q:=⟨_,rfl⟩
   have hrf:M.sv.refused assume l={ Q.1 with core:=DL g assume,last:=Q.2,told:=2 }:=by
    have h9:=HGD.out;rw[hG] at h9;dsimp only at h9;rw[hQ] at h9;exact h9
   have YE:=zH hrf;have HQQ:=zH hQ;obtain⟨za,hza⟩:∃ za,(zr.a.map fun b=>(⟨b,0,none⟩:Addr))=za:=⟨_,rfl⟩
   try rw[hza]
   have HZA:=zH hza;clear hG hrf hQ HE HGD hza
   go_wp2
   go_loopg [8,117] nz (fun gk s8 alB wr=>∃ (k n:Nat) (Jr u:Fl Int) (st:Fl (Fl Int)),s8=.slice (Jr.a.map fun b=>⟨b,0,none⟩) n Jr.c∧alB=.int .i64 k∧k≤nz∧n≤nf+k∧Hid (Jr.xs.length=n∧(Jr.xs=[]→Jr.a=none))∧Hid (gk=nz-k) ∧
    Hid (At B w0 wr p (M.dJ u st) (P9 mt bm ng (gF g []) zr Jr F))∧Hid (tX M.sv (MM.sv (M.dJ u st)))∧Hid (SM.bH (MM.sv (M.dJ u st)) (zr.xs.drop k) Jr.xs=Q))
   case atStart=>exact⟨0,nf,fr,M.units,M.steps,rfl,rfl,Nat.zero_le _,Nat.le_refl _,⟨HL.out.1,HL.out.2.2.2.2.1⟩,rfl,H3.out,tX.refl _,HQQ.out⟩
   case round =>
    clear H3;obtain⟨k,n,Jr,u,st,rfl,rfl,hkn,hnn,Wn,hg2,H4,HUT,HE⟩:=hrel
    by_cases hkl:k<nz
    ·have e3:decide ((k:Int)<(nz:Int))=true:=by simp;omega
     have hz4:=H4.out.frame (Q9 _ _ _ _ _ _ _);obtain⟨bz,hbz⟩:=hz4.Yc (by rw[HL.out.2.1];omega);obtain rfl:za=some ⟨bz,0,none⟩:=by rw[←HZA.out,hbz];rfl
     obtain⟨v,hv⟩:∃ v,gn zr.xs k=v:=⟨_,rfl⟩;have hkx:k<zr.xs.length:=by rw[HL.out.2.1];exact hkl
     obtain⟨k3,_⟩:=hz4.FC hbz (j:=k) (x:=v) (by rw[←hv];exact aM _ _ hkx);simp only[vN] at k3;have z1:=HL.out.2.2.2.2.2 v (by rw[←hv];exact aU _ _ hkx);have hdr:zr.xs.drop k=v :: zr.xs.drop (k+1):=by rw[←hv,fD _ _ hkx];exact List.drop_eq_getElem_cons hkx
     have hE:=HE.out;rw[hdr,SM.bH] at hE;have hrq:=fA.out.rk _ z1;rw[show M.sv.value.length=N from DI.out] at hrq;have hun:SM.unit (MM.sv (M.dJ u st)) v=SM.bY N (MM.sv (M.dJ u st)) v:=by unfold SM.unit;rw[HUT.out.value,show M.sv.value.length=N from DI.out]
     rw[hun] at hE;have HC:=zH (FD N _ _ _ v H4.out (fA.out.un.AY HUT.out) z1 hrq);have HTO:=zH (vM N (fA.out.un.AY HUT.out) z1 hrq).1.AY;obtain⟨x,hx⟩:∃ x,(SM.bY N (MM.sv (M.dJ u st)) v).2=x:=⟨_,rfl⟩;rw[hx] at hE HC;have HE2:=zH hE;have p0:(0:Int)≤(k:Int):=by omega
     have p1:(k:Int)<(nz:Int):=by omega
     clear hE hv hbz hdr hkx hun hx HE z1 hrq hz4
     go_wp2_with fail
     refine HC.out.mono ?_
     rintro e w5 ⟨rfl,u4,s4,h4,h5⟩
     have H5:=zH ((show At B w0 w5 p (M.dJ u4 s4) (P9 mt bm ng (gF g []) zr Jr F) from h4).frame (KT _ _ _ _ _ _ _));have tY:=zH (show MM.sv (M.dJ u4 s4)=(SM.bY N (MM.sv (M.dJ u st)) v).1 from h5);have MP:=zH (H5.out.ML Wn.out.1);have Nh:=zH H5.out.bA;clear h4 h5 HC k3
     go_wp2_with (at_builtin;refine aO rfl _ _ 27 3 (.int .i64 0) 8 rfl Tryz.underlying27 Tryz.bW rfl MP.out rfl (.int .i64 x) rfl rfl (by omega) (by simp only[maxLen];omega) ?_;intro b' c' w6 hs;have h6:=At.MN (M:=M.dJ u4 s4) (enc:=vI) (x:=x) Nh.out Wn.out.1 hs;have H6:=zH (h6.frame (KT _ _ _ _ _ ⟨some b',c',Jr.xs++[x]⟩ _).symm);clear hs h6)
     go_roundg (nz-(k+1))
     case measure=>have:=hg2.out;omega
     case rel=>exact⟨k+1,n+1,⟨some b',c',Jr.xs++[x]⟩,u4,s4,rfl,by go_num,by omega,by omega,zH ⟨by simp[Wn.out.1],by simp⟩,rfl,H6.out,zH (by rw[tY.out];exact HUT.out.trans HTO.out),zH (by rw[tY.out];exact HE2.out)⟩
    ·obtain rfl:k=nz:=by omega
     have e3:decide ((k:Int)<(k:Int))=false:=by simp
     have hR:Q=(MM.sv (M.dJ u st),Jr.xs):=by rw[←HE.out,List.drop_of_length_le (by rw[HL.out.2.1];exact Nat.le_refl _)];rfl
     have HR:=zH hR;have c22:=H4.out.uw;have c23:=H4.out.uy;obtain⟨u1,hu1⟩:∃ x,Value.slice ((M.dJ u st).core.a.map fun b=>⟨b,0,none⟩) (M.dJ u st).core.xs.length (M.dJ u st).core.c=x:=⟨_,rfl⟩;obtain⟨u2,hu2⟩:∃ x,Value.slice ((M.dJ u st).last.a.map fun b=>⟨b,0,none⟩) (M.dJ u st).last.xs.length (M.dJ u st).last.c=x:=⟨_,rfl⟩;rw[hu1] at c22;rw[hu2] at c23;have f0:=H4.out.fz;have h5:=(H4.out.qU).frame (show _=star (sl Jr.a n Jr.c 3 1 (Jr.xs.map vI)) (star (mp Tryz.prog 3 3 bm ng (gF g [])) (star (star (mt.hp 4 vB) (zr.hp 3 vN)) F)) by unfold P9 Fl.hp;rw[Wn.out.1];ac_rfl);have h6:=At.zB h5 Wn.out.1 Wn.out.2;have H6:=zH h6;clear h5 h6 hu1 hu2 hR HE hg2
     go_upto_region 26 with fail
     clear c22 c23 f0;revert H6;generalize (wr.setCell ⟨p,22,none⟩ (.slice none 0 0)).setCell ⟨p,23,none⟩ (.slice (Jr.a.map fun b=>⟨b,0,none⟩) n Jr.c)=w7;intro H6;obtain⟨M3,zJ⟩:∃ M3,((M.dJ u st).ql ⟨none,0,[]⟩).DY ⟨Jr.a,Jr.c,Jr.xs⟩=M3:=⟨_,rfl⟩;rw[zJ] at H6
     have hs3:∀ co:Fl Int,MM.sv ((M3.ql co).uq 2)={ Q.1 with core:=co.xs,last:=Q.2,told:=2 }:=by
      intro co;rw[←zJ,HR.out];rfl
     have Hy:=zH hs3;obtain⟨Y,hY⟩:∃ Y,star (mt.hp 4 vB) (zr.hp 3 vN)=Y:=⟨_,rfl⟩;rw[hY] at H6;have hm3:M3.ql ⟨none,0,[]⟩=M3:=by rw[←zJ]
     have HM3:=zH hm3;have hna:assume.length=na:=(At.YD HST.out (H6.out.iL.iL)).len;have hnab:na≤1000000:=by rw[←hna];exact fA.out.len
     have TD:=zH hna;clear zJ hs3 hY hm3 hna
     go_wp2
     go_loopg [137] na (fun gk alC wr=>∃ (k nc ng2:Nat) (co:Fl Int),alC=.int .i64 k∧k≤na∧nc≤k∧ng2≤ng+k∧Hid (co.xs.length=nc)∧Hid (gk=na-k) ∧
      Hid (At B w0 wr p (M3.ql co) (star (mp Tryz.prog 3 3 bm ng2 (gF g co.xs)) (star Y F)))∧Hid (SM.jY g co.xs (assume.drop k)=DL g assume))
     case atStart=>exact⟨0,0,ng,⟨none,0,[]⟩,rfl,Nat.zero_le _,Nat.le_refl _,Nat.le_refl _,rfl,rfl,zH (by rw[HM3.out];exact H6.out),rfl⟩
     case round =>
      clear H6;obtain⟨k,nc,ng2,co,rfl,hkn2,hnc,hng2,KL,hg3,H7,HE⟩:=hrel
      by_cases ahl:k<na
      ·have e4:decide ((k:Int)<(na:Int))=true:=by simp;omega
       obtain⟨b,o,rfl,hc⟩:=(At.YD HST.out (H7.out.iL.iL)).cells (by omega);obtain⟨a,ha⟩:∃ a,gi assume k=a:=⟨_,rfl⟩;have k3:=hc k ahl;rw[ha] at k3;have hkx:k<assume.length:=by rw[TD.out];exact ahl
       have Qa:a∈assume:=by rw[←ha,dh _ _ hkx];exact List.getElem_mem hkx
       have hw:=KS (x:=a) (by have:=fA.out.lits a Qa;omega);have hdr:assume.drop k=a :: assume.drop (k+1):=by rw[←ha,dh _ _ hkx];exact List.drop_eq_getElem_cons hkx
       have hE:=HE.out;rw[hdr,SM.jY] at hE;have hmp:=H7.out.akG;have hl1:=St.vV hmp Tryz.DK Tryz.underlying102 Tryz.underlying3 Tryz.underlying3 Tryz.YC a hw;obtain⟨fx,hfx⟩:∃ fx,gF g co.xs a=fx:=⟨_,rfl⟩;rw[hfx] at hl1;have HE2:=zH hE;have HW:=zH hw;have HMP:=zH hmp;have HFX:=zH hfx;have p0:(0:Int)≤(k:Int):=by omega
       have p1:(k:Int)<(na:Int):=by omega
       clear hE hdr Qa hkx ha hc hw hmp hfx HE
       by_cases hf1:fx=1
       ·subst hf1;have e5:decide ((1:Int)=1)=true:=by simp
        have hga:a∈g∧a∉co.xs:=by
         have h9:=HFX.out;unfold gF at h9
         by_cases h1:a∈co.xs
         ·rw[if_pos h1] at h9;omega
         ·rw[if_neg h1] at h9
          by_cases h2:a∈g
          ·exact⟨h2,h1⟩
          ·rw[if_neg h2] at h9;omega
        have hE:=HE2.out;rw[if_pos hga] at hE;have HE3:=zH hE;clear hE hga
        go_upto_region 31 with (at_mapUpdate;refine iG rfl _ _ _ rfl HMP.out Tryz.DK Tryz.underlying102 Tryz.underlying3 Tryz.underlying3 (by simp only[maxLen];omega) a 2 rfl rfl rfl HW.out (by decide) ?_;intro w9 h9;have H9:=zH h9;clear h9)
        have YF:upd (gF g co.xs) a 2=gF g (co.xs++[a]):=by
         funext u
         unfold upd gF
         by_cases hu:u=a <;> simp[hu]
        have h10:=H9.out;rw[YF] at h10;have DJ:=zH (At.Yb h10 H7.out.bA);have c22:=DJ.out.uw;have t22:=DJ.out.Wx;rw[show (M3.ql co).core.xs.length=nc from KL.out] at c22 t22;have alE:=zH t22;have Nh:=zH DJ.out.bA;clear h10 YF H9 t22 k3 hl1 HMP
        go_wp2_with (at_builtin;refine aO rfl _ _ 27 3 (.int .i64 0) 8 rfl Tryz.underlying27 Tryz.bW rfl alE.out rfl (.int .i64 a) rfl rfl (by omega) (by simp only[maxLen];omega) ?_;intro b' c' w6 hs;have h6:=At.Ut (M:=M3.ql co) (x:=a) Nh.out KL.out hs;have H6:=zH h6;clear hs h6;obtain⟨c7,f7⟩:=H6.out.1)
        go_roundg (na-(k+1))
        case measure=>have:=hg3.out;omega
        case rel=>exact⟨k+1,nc+1,ng2+1,⟨some b',c',co.xs++[a]⟩,by go_num,by omega,by omega,by omega,zH (by simp[KL.out]),rfl,H6.out.2,HE3.out⟩
       ·have e5:decide (fx=1)=false:=by simpa using hf1
        have hE:=HE2.out;rw[if_neg (show ¬ (a∈g∧a∉co.xs) from fun h=>hf1 (by rw[←HFX.out];unfold gF;rw[if_neg h.2,if_pos h.1]))] at hE;have HE3:=zH hE;clear hE
        go_wp2
        go_roundg (na-(k+1))
        case measure=>have:=hg3.out;omega
        case rel=>exact⟨k+1,nc,ng2,co,by go_num,by omega,by omega,by omega,KL.out,rfl,H7.out,HE3.out⟩
      ·obtain rfl:k=na:=by omega
       have e4:decide ((k:Int)<(k:Int))=false:=by simp
       have hR:DL g assume=co.xs:=by rw[←HE.out,List.drop_of_length_le (by rw[TD.out];exact Nat.le_refl _)];rfl
       have HR2:=zH hR;have c9:=H7.out.qm;have f9:=H7.out.fz 24;have H9:=zH (H7.out.zk 2);clear hR HE hg3
       go_wp2
       go_end0
       exact⟨rfl,_,H9.out.iL.iL,by rw[YE.out,HR2.out];exact Hy.out co⟩
  | succ i =>
   obtain rfl:z=(i:Int):=by omega
   clear hz;have e2:decide ((0:Int)≤(i:Int))=true:=by simp
   obtain⟨x,hx⟩:∃ x,gn M.trail.xs i=x:=⟨_,rfl⟩;have hix:i<M.trail.xs.length:=by rw[wJ.out];omega
   have hxm:x∈M.sv.trail:=by rw[←hx];exact aU _ _ hix
   obtain⟨bt,hbt⟩:=H3.out.Kr (by omega);obtain⟨k1,_⟩:=H3.out.Dt hbt (i:=i) (x:=x) (by rw[←hx];exact aM _ _ hix);simp only[vL] at k1;have c12:=H3.out.jV;rw[hbt,wJ.out] at c12;simp only[Option.map_some] at c12;have hxv:=fA.out.tr _ hxm;rw[show M.sv.value.length=N from DI.out] at hxv;have hx6:x<1000000:=by omega
   have HXV:=zH (fun V=>pQ x V hx6);have HXN:=zH (fun V=>yh x V hx6);have hnw:=KS (x:=bI x) (by rw[Nf];omega);have AZ:=zH hnw;have hr:=fA.out.r x hxm;have hzz:=fA.out.z x hxm;have hge:=HE.out;rw[SM.fZ] at hge;rw[show gn M.sv.trail i=x from hx] at hge;obtain⟨q,hq⟩:∃ q,x/2=q:=⟨_,rfl⟩;rw[hq] at HXV hxv hr hzz
   try dsimp only at hge
   rw[hq] at hge;obtain⟨rv,I6⟩:∃ r,gi M.sv.reason q=r:=⟨_,rfl⟩;obtain⟨lv,hlv⟩:∃ lv,gn M.sv.level q=lv:=⟨_,rfl⟩;obtain⟨m,hm⟩:∃ m,gB mt.xs q=m:=⟨_,rfl⟩;rw[I6,hlv] at hr;rw[hlv] at hzz;rw[I6,hlv,hm] at hge;have hrl:M.reason.xs.length=N:=by rw[←DI.out];exact fA.out.sz.reason
   have hll:M.level.xs.length=N:=by rw[←DI.out];exact fA.out.sz.level
   obtain⟨br,hbr⟩:=H3.out.uF (by omega);obtain⟨d2,_⟩:=H3.out.qK hbr (i:=q) (x:=rv) (by rw[←I6];exact gT _ _ (by omega));simp only[vI] at d2;have c2:=H3.out.nO;rw[hbr,hrl] at c2;simp only[Option.map_some] at c2;obtain⟨bv,hbv⟩:=H3.out.Dr (by omega);obtain⟨d3,_⟩:=H3.out.zx hbv (i:=q) (x:=lv) (by rw[←hlv];exact aM _ _ (by show q<M.level.xs.length;omega));simp only[vN] at d3;have c3:=H3.out.vH;rw[hbv,hll] at c3;simp only[Option.map_some] at c3;have hqm:q<mt.xs.length:=by rw[HL.out.2.2.1];exact hxv
   obtain⟨k4,_⟩:=H3.out.FC (r:=mt) HL.out.2.2.2.1 (j:=q) (x:=m) (by rw[←hm];exact jy _ _ hqm);simp only[vB] at k4;have q0:(0:Int)≤(q:Int):=by omega
   have q1:(q:Int)<(N:Int):=by omega
   have t0:(0:Int)≤(i:Int):=by omega
   have t1:(i:Int)<(nt:Int):=by omega
   have HQX:=zH hq;have HHR:=zH hr;have HZZ:=zH hzz;have HGE:=zH hge;clear hr hzz hge HE hx hix hxm hbt hq I6 hlv hm hrl hll hbr hbv hnw
   go_upto_region 8 with fail
   go_quiet ((go_at_call 68;exact uJ HXV.out _))
   revert nq;intro nq1;have H4:=zH (H3.out.drewN nq1);have k4b:(wr.drewN nq1).cell? ⟨mb,q,none⟩=some (.bool m):=k4;have c3b:(wr.drewN nq1).cell? ⟨p,8,none⟩=some (.slice (some ⟨bv,0,none⟩) N M.level.c):=c3;have d3b:(wr.drewN nq1).cell? ⟨bv,q,none⟩=some (.int .i64 lv):=d3;clear k1 c12 d2 c2 c3 d3 k4 H3
   go_upto_region 9 with fail
   revert H4 k4b c3b d3b;generalize wr.drewN nq1=w5;intro H4 k4b c3b d3b
   go_wp2_with fail
   refine (HXV.out _).mono ?_
   rintro e w6 ⟨rfl,rfl⟩
   cases m with
   | false =>
    have hge:=HGE.out;rw[if_neg (by decide)] at hge;have U9:=zH hge;clear hge
    go_wp2
    go_roundg i
    case measure=>have:=hg.out;omega
    case rel=>exact⟨_,i,nf,nz,ng,mt,zr,fr,g,rfl,rfl,by go_num,rfl,by omega,by omega,by omega,by omega,HL.out,rfl,H4.out,U9.out⟩
   | true =>
    have hge:=HGE.out;rw[if_pos rfl] at hge;have U9:=zH hge;clear hge HGE
    go_upto_region 10 with fail
    by_cases hl0:lv=0
    ·subst hl0;have e5:decide (((0:Nat):Int)=0)=true:=by simp
     go_quiet ((go_at_call 68;exact uJ HXV.out _))
     revert nq;intro Ym;have hge:=U9.out;rw[if_pos rfl] at hge;have Bt:=zH hge;have H5:=zH ((H4.out.drewN Ym).frame (Q9 _ _ _ _ _ _ _));have MP:=zH (H5.out.ML HL.out.2.1);have Nh:=zH H5.out.bA;clear hge U9 H4 k4b c3b d3b
     go_upto_region 11 with fail
     go_wp2_with fail
     refine (HXV.out _).mono ?_
     rintro e w7 ⟨rfl,rfl⟩
     go_wp2_with (at_builtin;refine aO rfl _ _ 27 3 (.int .i64 0) 8 rfl Tryz.underlying27 Tryz.bW rfl MP.out rfl (.int .i64 q) rfl rfl (by omega) (by simp only[maxLen];omega) ?_;intro b' c' w8 hs;have h6:=At.MN (M:=M) (enc:=vN) (x:=q) Nh.out HL.out.2.1 hs;have H6:=zH (h6.frame (Q9 _ _ _ _ ⟨some b',c',zr.xs++[q]⟩ _ _).symm);clear hs h6)
     have HZQ:=zH (show ∀ v∈zr.xs++[q],Z v from fun v hv=>by
      rcases List.mem_append.1 hv with h1 | h1
      ·exact HL.out.2.2.2.2.2 v h1
      ·simp at h1;rw[h1]
       first | exact HZZ.out rfl | exact HZZ.out trivial)
     go_roundg i
     case measure=>have:=hg.out;omega
     case rel=>exact⟨_,i,nf,nz+1,ng,mt,⟨some b',c',zr.xs++[q]⟩,fr,g,rfl,rfl,by go_num,rfl,by omega,by omega,by omega,by omega,zH ⟨HL.out.1,by simp[HL.out.2.1],HL.out.2.2.1,HL.out.2.2.2.1,HL.out.2.2.2.2.1,HZQ.out⟩,rfl,H6.out,Bt.out⟩
    ·have e5:decide ((lv:Int)=0)=false:=by simp;omega
     go_quiet ((go_at_call 68;exact uJ HXV.out _))
     revert nq;intro Ym;have hge:=U9.out;rw[if_neg hl0] at hge;have H5:=zH (H4.out.drewN Ym);have Bt:=zH hge;clear hge U9 H4 k4b c3b d3b
     go_upto_region 12 with fail
     revert H5;generalize w5.drewN Ym=w7;intro H5
     by_cases hrm:rv=-1
     ·subst hrm;have e6:decide ((-1:Int)=-1)=true:=by simp
      have hge:=Bt.out;rw[if_pos rfl] at hge;have QW:=zH hge;have HM:=zH ((H5.out.frame (aew _ _ _ _ _ _ _)).st.aB (show _=star (mp Tryz.prog 3 3 bm ng (gF g [])) (star (stars (parts p M)) (star (mt.hp 4 vB) (star (zr.hp 3 vN) (star (fr.hp 3 vI) F)))) by ac_rfl));clear hge Bt
      go_wp2_with fail
      refine (HXN.out _).mono ?_
      rintro e w8 ⟨rfl,rfl⟩
      go_wp2_with (at_mapUpdate;refine iG rfl _ _ _ rfl HM.out Tryz.DK Tryz.underlying102 Tryz.underlying3 Tryz.underlying3 (by simp only[maxLen];omega) (bI x) 1 rfl rfl rfl AZ.out (by decide) ?_;intro w9 h9;have H9:=zH h9;clear h9)
      have YF:upd (gF g []) (bI x) 1=gF (g++[bI x]) []:=by
       funext u
       unfold upd gF
       by_cases hu:u=bI x <;> simp[hu]
      have h10:At B w0 w9 p M (P9 mt bm (ng+1) (gF (g++[bI x]) []) zr fr F):=by
       have h9:=H9.out;rw[YF] at h9;refine⟨h9.aB ?_,fP.out⟩;unfold P9
       ac_rfl
      have DJ:=zH h10;clear h10 YF H9 HM
      go_roundg i
      case measure=>have:=hg.out;omega
      case rel=>exact⟨_,i,nf,nz,ng+1,mt,zr,fr,g++[bI x],rfl,rfl,by go_num,rfl,by omega,by omega,by omega,by omega,HL.out,rfl,DJ.out,QW.out⟩
     ·have e6:decide (rv=-1)=false:=by simpa using hrm
      obtain⟨r,rfl,g2,g3,g4⟩:=(HHR.out hl0).resolve_left hrm;have hge:=Bt.out;rw[if_neg hrm,Int.toNat_natCast] at hge;have nQ:M.sv.cls.length=M.cls.xs.length:=by show (M.cls.xs.map _).length=_;rw[List.length_map]
      rw[nQ] at g2;obtain⟨⟨r2,tQ⟩,hi2⟩:∃ x,M.cls.xs[r]?=some x:=⟨M.cls.xs[r],by simp[g2]⟩;obtain⟨bc,hbc⟩:=H5.out.IY (by omega);obtain⟨o1,o2⟩:=H5.out.wI hbc hi2;have c5:=H5.out.uz;obtain⟨nc,hnc⟩:∃ n,M.cls.xs.length=n:=⟨_,rfl⟩;rw[hbc,hnc] at c5;simp only[Option.map_some] at c5;obtain⟨p1,p2⟩:=Cq hi2;obtain⟨nr,hnr⟩:∃ n,r2.xs.length=n:=⟨_,rfl⟩;obtain⟨ra,hra⟩:∃ ra,(r2.a.map fun b=>(⟨b,0,none⟩:Addr))=ra:=⟨_,rfl⟩;rw[p1] at hge g3 g4;rw[p2] at hge;rw[hnr] at g3;have r0:(0:Int)≤(r:Int):=by omega
      have r1:(r:Int)<(nc:Int):=by omega
      have QW:=zH hge;have HG4:=zH g4;have HI2:=zH hi2;have HNR:=zH hnr;have KJ:=zH hra;have HBC:=zH hbc;have Tt:=zH hnc;have H6:=zH (H5.out.frame (KT _ _ _ _ _ _ _));have MP:=zH (H6.out.ML HL.out.1);have Nh:=zH H6.out.bA;clear hge g4 hi2 hnr hra p1 p2 hbc hnc nQ g2 Bt H5 o1
      go_upto_region 15 with (at_builtin;refine aO rfl _ _ 27 3 (.int .i64 0) 8 rfl Tryz.underlying27 Tryz.bW rfl MP.out rfl (.int .i64 tQ) rfl rfl (by omega) (by simp only[maxLen];omega) ?_;intro b' c' w8 hs;have h6:=At.MN (M:=M) (enc:=vI) (x:=tQ) Nh.out HL.out.1 hs;have H7:=zH (h6.frame (KT _ _ _ _ _ ⟨some b',c',fr.xs++[tQ]⟩ _).symm);clear hs h6)
      clear o2 c5 MP Nh H6;have o1:=(H7.out.wI HBC.out HI2.out).1;have c5:=H7.out.uz;rw[HBC.out,Tt.out] at c5;rw[HNR.out,KJ.out] at o1;simp only[Option.map_some] at c5
      go_wp2
      clear o1 c5
      go_loopg [106] nr (fun gk2 alF wr=>∃ (k:Nat) (Ni:Fl Bool),alF=.int .i64 k∧k≤nr∧Hid (gk2=nr-k)∧Hid (Ni.xs.length=N∧Ni.a=some mb∧Ni.xs=(r2.xs.take k).foldl (fun m y=>m.set (y/2) true) mt.xs)∧Hid (At B w0 wr p M (P9 Ni bm ng (gF g []) zr ⟨some b',c',fr.xs++[tQ]⟩ F)))
      case atStart=>exact⟨0,mt,rfl,Nat.zero_le _,rfl,⟨HL.out.2.2.1,HL.out.2.2.2.1,by simp⟩,H7.out⟩
      case round =>
       clear H7;obtain⟨k,Ni,rfl,hkn,hg2,uf,H8⟩:=hrel
       by_cases hkl:k<nr
       ·have e7:decide ((k:Int)<(nr:Int))=true:=by simp;omega
        obtain⟨bl,hbl⟩:=(H8.out.wY HI2.out).1 (by rw[HNR.out];omega);obtain rfl:ra=some ⟨bl,0,none⟩:=by rw[←KJ.out,hbl];rfl
        obtain⟨y,hy⟩:∃ y,gn r2.xs k=y:=⟨_,rfl⟩;have hkx:k<r2.xs.length:=by rw[HNR.out];exact hkl
        obtain⟨k3,_⟩:=H8.out.iE HI2.out hbl (j:=k) (x:=y) (by rw[←hy];exact aM _ _ hkx);have hyv:=HG4.out y (by rw[←hy];exact aU _ _ hkx);rw[show M.sv.value.length=N from DI.out] at hyv;have Ih:y<1000000:=by omega
        have HYV:=zH (fun V=>pQ y V Ih)
        have hfo:(r2.xs.take (k+1)).foldl (fun m y=>m.set (y/2) true) mt.xs=Ni.xs.set (y/2) true:=by
         rw[List.take_succ_eq_append_getElem hkx,List.foldl_append,←uf.out.2.2,←fD _ _ hkx,hy];rfl
        obtain⟨q2,hq2⟩:∃ q,y/2=q:=⟨_,rfl⟩;rw[hq2] at HYV hyv hfo;have aex:q2<Ni.xs.length:=by rw[uf.out.1];exact hyv
        obtain⟨k6,f6⟩:=H8.out.FC (r:=Ni) uf.out.2.1 (j:=q2) (x:=gB Ni.xs q2) (jy _ _ aex);simp only[vB] at k6;have H9:=zH (show At B w0 (wr.setCell ⟨mb,q2,none⟩ (.bool true)) p M (P9 ⟨Ni.a,Ni.c,Ni.xs.set q2 true⟩ bm ng (gF g []) zr ⟨some b',c',fr.xs++[tQ]⟩ F) from H8.out.agQ uf.out.2.1 aex true);have HFO:=zH hfo;have q2a:(0:Int)≤(q2:Int):=by omega
        have q2b:(q2:Int)<(N:Int):=by omega
        have p0:(0:Int)≤(k:Int):=by omega
        have p1:(k:Int)<(nr:Int):=by omega
        clear hbl hy hkx hfo hq2 aex
        go_wp2_with fail
        refine (HYV.out _).mono ?_
        rintro e w9 ⟨rfl,rfl⟩
        go_wp2
        go_roundg (nr-(k+1))
        case measure=>have:=hg2.out;omega
        case rel=>exact⟨k+1,⟨Ni.a,Ni.c,Ni.xs.set q2 true⟩,by go_num,by omega,rfl,⟨by rw[List.length_set];exact uf.out.1,uf.out.2.1,HFO.out.symm⟩,H9.out⟩
       ·obtain rfl:k=nr:=by omega
        have e7:decide ((k:Int)<(k:Int))=false:=by simp
        have hmx:Ni.xs=r2.xs.foldl (fun m y=>m.set (y/2) true) mt.xs:=by rw[uf.out.2.2,List.take_of_length_le (by rw[HNR.out];exact Nat.le_refl _)]
        have HMX:=zH hmx;clear hmx hg2
        go_wp2
        go_roundg i
        case measure=>have:=hg.out;omega
        case rel=>exact⟨_,i,nf+1,nz,ng,Ni,zr,⟨some b',c',fr.xs++[tQ]⟩,g,rfl,rfl,by go_num,rfl,by omega,by omega,by omega,by omega,zH ⟨by simp[HL.out.1],HL.out.2.1,uf.out.1,uf.out.2.1,by simp,HL.out.2.2.2.2.2⟩,rfl,H8.out,zH (by rw[HMX.out];exact QW.out)⟩
end
end Go.Proofs.YthbbmdnfkkffjaaGreat
namespace Go.Proofs.YthbbmdnfkkffjaaGreat
open Go.RowKit Go.Proofs.aC Go.Proofs.au Go.Proofs.aA
section
variable {B:Nat} {w0 w:World} {p:Nat} {M:MM} {F:HP}
theorem Ra (h:At B w0 w p M F):Calls Tryz.prog 59 #[.pointer (some ⟨p,0,none⟩)] w fun e w'=>e=.returned (.int .i64 M.words)∧w=w':=by
 have c:=h.Dq;clear h
 go_enter Tryz.func59,Tryz.ntmps59
 go_wp2
 go_ret
 exact⟨rfl,rfl⟩
theorem Va (h:At B w0 w p M F):Calls Tryz.prog 55 #[.pointer (some ⟨p,0,none⟩)] w fun e w'=>e=.returned (.int .i64 M.told)∧w=w':=by
 have c:=h.qm;clear h
 go_enter Tryz.func55,Tryz.ntmps55
 go_wp2
 go_ret
 exact⟨rfl,rfl⟩
theorem Rb (h:At B w0 w p M F):Calls Tryz.prog 48 #[.pointer (some ⟨p,0,none⟩)] w fun e w'=>e=.returned (.slice (M.given.a.map fun b=>⟨b,0,none⟩) M.given.xs.length M.given.c)∧w=w':=by
 have c:=h.rM;clear h
 go_enter Tryz.func48,Tryz.ntmps48
 go_wp2
 go_ret
 exact⟨rfl,rfl⟩
theorem KU (h:At B w0 w p M F):Calls Tryz.prog 51 #[.pointer (some ⟨p,0,none⟩)] w fun e w'=>e=.returned (.slice (M.learned.a.map fun b=>⟨b,0,none⟩) M.learned.xs.length M.learned.c)∧w=w':=by
 have c:=h.nC;clear h
 go_enter Tryz.func51,Tryz.ntmps51
 go_wp2
 go_ret
 exact⟨rfl,rfl⟩
theorem Js (n:Nat) (h:At B w0 w p M F) (hn:n≤1000000) (hw:M.words≤1000000000) :
  Calls Tryz.prog 65 #[.pointer (some ⟨p,0,none⟩),.int .i64 n] w fun e w'=>e=.returned (.bool (decide (M.words+n+2≤M.most)))∧bJ w w':=by
 have c:=h.Dq;have c2:=h.adB;obtain⟨x,hx⟩:∃ x,M.words=x:=⟨_,rfl⟩;obtain⟨y,hy⟩:∃ y,M.most=y:=⟨_,rfl⟩;rw[hx] at c hw ⊢;rw[hy] at c2 ⊢;clear h hx hy
 have h1:decide ((x:Int)+(n:Int)+2≤(y:Int))=decide (x+n+2≤y):=by
  apply decide_eq_decide.2;omega
 have HB:=zH h1;clear h1
 go_enter Tryz.func65,Tryz.ntmps65
 go_wp2
 go_quiet (fail)
 go_wp2
 go_ret
 exact⟨by rw[←HB.out];rfl,⟨_,rfl⟩⟩
end
end Go.Proofs.YthbbmdnfkkffjaaGreat

/-
  Parts of the proof, joined by program: An, Mts, Fl1.
-/
import Derived.Test.YthbbmdnfkkffjaaGreatY14
import Derived.Test.YthbbmdnfkkffjaaGreatY11
import Derived.Test.YthbbmdnfkkffjaaGreatY01
import Derived.ArgAppend
import Derived.Deep.MidRow
import Derived.Lib.Hide
set_option maxHeartbeats 8000000
set_option maxRecDepth 100000
namespace Go.Proofs.YthbbmdnfkkffjaaGreat
open Go.RowKit Go.Proofs.aC Go.Proofs.au Go.Proofs.aA
structure An where
 met:Fl Bool
 zero:Fl Nat
 lits:Fl Nat
 fr:Fl Int
 jo:Nat
def An.am (A:An):AM:={ met:=A.met.xs,zero:=A.zero.xs,lits:=A.lits.xs,fr:=A.fr.xs }
abbrev An.jw (A:An) (f:Fl Bool):An:={ A with met:=f }
abbrev An.ad7 (A:An) (f:Fl Nat):An:={ A with zero:=f }
abbrev An.bq (A:An) (f:Fl Nat):An:={ A with lits:=f }
abbrev An.qV (A:An) (f:Fl Int):An:={ A with fr:=f }
abbrev An.mK (A:An) (x:Nat):An:={ A with jo:=x }
def dK (p:Nat) (A:An):List Value:=[.pointer (some ⟨p,0,none⟩),A.met.v,A.zero.v,A.lits.v,A.fr.v,vN A.jo]
def aK (p a0:Nat) (A:An):List HP :=
 [pt a0 143 (dK p A),A.met.hp 4 vB,A.zero.hp 3 vN,A.lits.hp 98 vL,A.fr.hp 3 vI]
section
variable {B:Nat} {w0 w:World} {p a0:Nat} {M:MM} {F:HP} {A:An}
theorem At.an (h:At B w0 w p M (star (stars (aK p a0 A)) F)):St B w0 w (star (stars (aK p a0 A)) (star (stars (parts p M)) F)):=h.st.aB (by ac_rfl)
theorem At.Cr (h:St B w0 w (star (stars (aK p a0 A)) (star (stars (parts p M)) F))) (hl:M.last.xs=[]→M.last.a=none):At B w0 w p M (star (stars (aK p a0 A)) F):=⟨h.aB (by ac_rfl),hl⟩
theorem At.pJ (h:At B w0 w p M (star (stars (aK p a0 A)) F)) (i:Nat):w.cell? ⟨a0,i,none⟩=(dK p A)[i]?∧w.frozen? ⟨a0,i,none⟩=false:=by
 have h1:=h.an.aX (k:=0) (P:=pt a0 143 (dK p A)) rfl;exact⟨h1.aG i,h1.bU i⟩
theorem At.abe (h:At B w0 w p M (star (stars (aK p a0 A)) F)) (x:Nat):At B w0 (w.setCell ⟨a0,5,none⟩ (.int .i64 x)) p M (star (stars (aK p a0 (A.mK x))) F):=by
 have h1:=h.an.aX (k:=0) (P:=pt a0 143 (dK p A)) rfl;have h2:=(h1.bM 5 (.int .i64 x)).aH (Ps:=aK p a0 A) (k:=0) (by simp[aK]);exact At.Cr (h2.aB (by simp only[aK,dK,List.set_cons_succ,List.set_cons_zero,vN])) h.bA
theorem At.QO (h:At B w0 w p M (star (stars (aK p a0 A)) F)):St B w0 w (star (sl A.met.a A.met.xs.length A.met.c 4 1 (A.met.xs.map vB)) (star (stars ((aK p a0 A).eraseIdx 1)) (star (stars (parts p M)) F))):=h.an.aX (k:=1) rfl
theorem At.Yg (h:At B w0 w p M (star (stars (aK p a0 A)) F)) (hi:0<A.met.xs.length):∃ b,A.met.a=some b:=by
 obtain⟨_,_,_,hn,_⟩:=h.QO.sat.aR
 cases e:A.met.a with
 | none=>have:=(hn e).1;omega
 | some b=>exact⟨b,rfl⟩
theorem At.Yh (h:At B w0 w p M (star (stars (aK p a0 A)) F)) {b i:Nat} (hb:A.met.a=some b) {x:Bool} (hi:A.met.xs[i]?=some x):w.cell? ⟨b,i,none⟩=some (vB x)∧w.frozen? ⟨b,i,none⟩=false:=by
 have h1:=h.QO;rw[hb] at h1;exact⟨by rw[h1.aW i (by rw[List.length_map];exact bV hi),List.getElem?_map,hi];rfl,h1.bZ i⟩
theorem At.Yi (h:At B w0 w p M (star (stars (aK p a0 A)) F)) {b i:Nat} (hb:A.met.a=some b) (hi:i<A.met.xs.length) (x:Bool):At B w0 (w.setCell ⟨b,i,none⟩ (vB x)) p M (star (stars (aK p a0 (A.jw ⟨A.met.a,A.met.c,A.met.xs.set i x⟩))) F):=by
 have h1:=h.QO;rw[hb] at h1;have h2:=(h1.fH i (vB x) (by simpa using hi)).aH (Ps:=aK p a0 A) (k:=1) (by simp[aK]);refine At.Cr (h2.aB ?_) h.bA;simp only[aK,dK,Fl.hp,Fl.v,List.length_set,List.map_set,List.set_cons_succ,List.set_cons_zero,hb]
theorem At.KM (h:At B w0 w p M (star (stars (aK p a0 A)) F)):St B w0 w (star (sl A.zero.a A.zero.xs.length A.zero.c 3 1 (A.zero.xs.map vN)) (star (stars ((aK p a0 A).eraseIdx 2)) (star (stars (parts p M)) F))):=h.an.aX (k:=2) rfl
theorem At.abf (h:At B w0 w p M (star (stars (aK p a0 A)) F)) (hi:0<A.zero.xs.length):∃ b,A.zero.a=some b:=by
 obtain⟨_,_,_,hn,_⟩:=h.KM.sat.aR
 cases e:A.zero.a with
 | none=>have:=(hn e).1;omega
 | some b=>exact⟨b,rfl⟩
theorem At.abg (h:At B w0 w p M (star (stars (aK p a0 A)) F)) {b i:Nat} (hb:A.zero.a=some b) {x:Nat} (hi:A.zero.xs[i]?=some x):w.cell? ⟨b,i,none⟩=some (vN x)∧w.frozen? ⟨b,i,none⟩=false:=by
 have h1:=h.KM;rw[hb] at h1;exact⟨by rw[h1.aW i (by rw[List.length_map];exact bV hi),List.getElem?_map,hi];rfl,h1.bZ i⟩
theorem At.QS {b' n c':Nat} {x:Nat} (hl:M.last.xs=[]→M.last.a=none) (hn:A.zero.xs.length=n) (h:St B w0 w (star (sl (some b') (n+1) c' 3 1 (A.zero.xs.map vN++[vN x])) (star (stars ((aK p a0 A).eraseIdx 2)) (star (stars (parts p M)) F)))) :
  (w.cell? ⟨a0,2,none⟩=some (.slice (A.zero.a.map fun b=>⟨b,0,none⟩) n A.zero.c)∧w.frozen? ⟨a0,2,none⟩=false)∧At B w0 (w.setCell ⟨a0,2,none⟩ (.slice (some ⟨b',0,none⟩) (n+1) c')) p M (star (stars (aK p a0 (A.ad7 ⟨some b',c',A.zero.xs++[x]⟩))) F):=by
 subst hn;have h2:=h.aH (Ps:=aK p a0 A) (k:=2) (by simp[aK]);have h3:=h2.aX (Ps:=(aK p a0 A).set 2 _) (k:=0) (P:=pt a0 143 (dK p A)) rfl;refine⟨⟨h3.aG 2,h3.bU 2⟩,?_⟩;have h4:=h3.bM 2 (.slice (some ⟨b',0,none⟩) (A.zero.xs.length+1) c');have h5:=h4.aH (Ps:=(aK p a0 A).set 2 (sl (some b') (A.zero.xs.length+1) c' 3 1 (A.zero.xs.map vN++[vN x]))) (k:=0) (by simp[aK]);refine At.Cr (h5.aB ?_) hl;simp only[aK,dK,Fl.hp,Fl.v,List.map_append,List.map_cons,List.map_nil,List.length_append,List.length_singleton,List.set_cons_succ,List.set_cons_zero,Option.map_some]
theorem At.vQ (h:At B w0 w p M (star (stars (aK p a0 A)) F)):St B w0 w (star (sl A.lits.a A.lits.xs.length A.lits.c 98 1 (A.lits.xs.map vL)) (star (stars ((aK p a0 A).eraseIdx 3)) (star (stars (parts p M)) F))):=h.an.aX (k:=3) rfl
theorem At.abh (h:At B w0 w p M (star (stars (aK p a0 A)) F)) (hi:0<A.lits.xs.length):∃ b,A.lits.a=some b:=by
 obtain⟨_,_,_,hn,_⟩:=h.vQ.sat.aR
 cases e:A.lits.a with
 | none=>have:=(hn e).1;omega
 | some b=>exact⟨b,rfl⟩
theorem At.DF (h:At B w0 w p M (star (stars (aK p a0 A)) F)) {b i:Nat} (hb:A.lits.a=some b) {x:Nat} (hi:A.lits.xs[i]?=some x):w.cell? ⟨b,i,none⟩=some (vL x)∧w.frozen? ⟨b,i,none⟩=false:=by
 have h1:=h.vQ;rw[hb] at h1;exact⟨by rw[h1.aW i (by rw[List.length_map];exact bV hi),List.getElem?_map,hi];rfl,h1.bZ i⟩
theorem At.Br (h:At B w0 w p M (star (stars (aK p a0 A)) F)) {b i:Nat} (hb:A.lits.a=some b) (hi:i<A.lits.xs.length) (x:Nat):At B w0 (w.setCell ⟨b,i,none⟩ (vL x)) p M (star (stars (aK p a0 (A.bq ⟨A.lits.a,A.lits.c,A.lits.xs.set i x⟩))) F):=by
 have h1:=h.vQ;rw[hb] at h1;have h2:=(h1.fH i (vL x) (by simpa using hi)).aH (Ps:=aK p a0 A) (k:=3) (by simp[aK]);refine At.Cr (h2.aB ?_) h.bA;simp only[aK,dK,Fl.hp,Fl.v,List.length_set,List.map_set,List.set_cons_succ,List.set_cons_zero,hb]
theorem At.QT {b' n c':Nat} {x:Nat} (hl:M.last.xs=[]→M.last.a=none) (hn:A.lits.xs.length=n) (h:St B w0 w (star (sl (some b') (n+1) c' 98 1 (A.lits.xs.map vL++[vL x])) (star (stars ((aK p a0 A).eraseIdx 3)) (star (stars (parts p M)) F)))) :
  (w.cell? ⟨a0,3,none⟩=some (.slice (A.lits.a.map fun b=>⟨b,0,none⟩) n A.lits.c)∧w.frozen? ⟨a0,3,none⟩=false)∧At B w0 (w.setCell ⟨a0,3,none⟩ (.slice (some ⟨b',0,none⟩) (n+1) c')) p M (star (stars (aK p a0 (A.bq ⟨some b',c',A.lits.xs++[x]⟩))) F):=by
 subst hn;have h2:=h.aH (Ps:=aK p a0 A) (k:=3) (by simp[aK]);have h3:=h2.aX (Ps:=(aK p a0 A).set 3 _) (k:=0) (P:=pt a0 143 (dK p A)) rfl;refine⟨⟨h3.aG 3,h3.bU 3⟩,?_⟩;have h4:=h3.bM 3 (.slice (some ⟨b',0,none⟩) (A.lits.xs.length+1) c');have h5:=h4.aH (Ps:=(aK p a0 A).set 3 (sl (some b') (A.lits.xs.length+1) c' 98 1 (A.lits.xs.map vL++[vL x]))) (k:=0) (by simp[aK]);refine At.Cr (h5.aB ?_) hl;simp only[aK,dK,Fl.hp,Fl.v,List.map_append,List.map_cons,List.map_nil,List.length_append,List.length_singleton,List.set_cons_succ,List.set_cons_zero,Option.map_some]
theorem At.acT (h:At B w0 w p M (star (stars (aK p a0 A)) F)):St B w0 w (star (sl A.fr.a A.fr.xs.length A.fr.c 3 1 (A.fr.xs.map vI)) (star (stars ((aK p a0 A).eraseIdx 4)) (star (stars (parts p M)) F))):=h.an.aX (k:=4) rfl
theorem At.MQ {b' n c':Nat} {x:Int} (hl:M.last.xs=[]→M.last.a=none) (hn:A.fr.xs.length=n) (h:St B w0 w (star (sl (some b') (n+1) c' 3 1 (A.fr.xs.map vI++[vI x])) (star (stars ((aK p a0 A).eraseIdx 4)) (star (stars (parts p M)) F)))) :
  (w.cell? ⟨a0,4,none⟩=some (.slice (A.fr.a.map fun b=>⟨b,0,none⟩) n A.fr.c)∧w.frozen? ⟨a0,4,none⟩=false)∧At B w0 (w.setCell ⟨a0,4,none⟩ (.slice (some ⟨b',0,none⟩) (n+1) c')) p M (star (stars (aK p a0 (A.qV ⟨some b',c',A.fr.xs++[x]⟩))) F):=by
 subst hn;have h2:=h.aH (Ps:=aK p a0 A) (k:=4) (by simp[aK]);have h3:=h2.aX (Ps:=(aK p a0 A).set 4 _) (k:=0) (P:=pt a0 143 (dK p A)) rfl;refine⟨⟨h3.aG 4,h3.bU 4⟩,?_⟩;have h4:=h3.bM 4 (.slice (some ⟨b',0,none⟩) (A.fr.xs.length+1) c');have h5:=h4.aH (Ps:=(aK p a0 A).set 4 (sl (some b') (A.fr.xs.length+1) c' 3 1 (A.fr.xs.map vI++[vI x]))) (k:=0) (by simp[aK]);refine At.Cr (h5.aB ?_) hl;simp only[aK,dK,Fl.hp,Fl.v,List.map_append,List.map_cons,List.map_nil,List.length_append,List.length_singleton,List.set_cons_succ,List.set_cons_zero,Option.map_some]
end
section
variable {B:Nat} {w0 w:World} {p a0:Nat} {M:MM} {F:HP} {A:An}
theorem QU (S:SM) (v:Nat):(S.meet v).value=S.value:=by
 unfold SM.meet
 split
 ·rfl
 ·exact rP _
theorem kg (but:Nat):∀ (ls:List Nat) {S:SM} {A:AM} {n:Nat},bG S→(∀ l∈ls,l/2<S.value.length) →
  bG (SM.dF but S A n ls).1∧(SM.dF but S A n ls).1.value=S.value∧(SM.dF but S A n ls).2.1.met.length=A.met.length∧(SM.dF but S A n ls).2.2≤n+ls.length∧(SM.dF but S A n ls).2.1.fr=A.fr
 | [],S,A,n,h,_=>⟨h,rfl,rfl,Nat.le_refl _,rfl⟩
 | l :: r,S,A,n,h,hv=>by
  have h1:bG (S.meet (l/2)):=h.meet (hv l (by simp));have h2:(S.meet (l/2)).value=S.value:=QU S (l/2);have hv2:∀ x∈r,x/2<(S.meet (l/2)).value.length:=fun x hx=>by rw[h2];exact hv x (by simp[hx])
  rw[SM.dF]
  split
  ·obtain⟨a,b,c,d,e⟩:=kg but r (A:=A) (n:=n) h fun x hx=>hv x (by simp[hx]);exact⟨a,b,c,by rw[List.length_cons];omega,e⟩
  ·split
   ·obtain⟨a,b,c,d,e⟩:=kg but r (A:={ A with met:=A.met.set (l/2) true,zero:=A.zero++[l/2] }) (n:=n) h1 hv2;exact⟨a,b.trans h2,by rw[c];simp,by rw[List.length_cons];omega,e⟩
   ·split
    ·obtain⟨a,b,c,d,e⟩:=kg but r (A:={ A with met:=A.met.set (l/2) true }) (n:=n+1) h1 hv2;exact⟨a,b.trans h2,by rw[c];simp,by rw[List.length_cons];omega,e⟩
    ·obtain⟨a,b,c,d,e⟩:=kg but r (A:={ A with met:=A.met.set (l/2) true,lits:=A.lits++[l] }) (n:=n) h1 hv2;exact⟨a,b.trans h2,by rw[c];simp,by rw[List.length_cons];omega,e⟩
theorem Je (ref but:Nat) (h:At B w0 w p M (star (stars (aK p a0 A)) F)) (hh:bG M.sv) (hlv:M.level.xs.length=M.value.xs.length) (hml:A.met.xs.length=M.value.xs.length) (hr:ref<M.cls.xs.length) (hcv:∀ l∈M.sv.cl ref,l/2<M.value.xs.length) (hn:(M.sv.cl ref).length≤100000) (hz:A.zero.xs.length≤1000000) (hl:A.lits.xs.length≤1000000) :
  Calls Tryz.prog 108 #[.pointer (some ⟨a0,0,none⟩),.int .i64 ref,.int .u32 but] w fun e w'=>e=.returned (.int .i64 ((SM.meets M.sv A.am ref but).2.2:Nat)) ∧
   ∃ a b c A',At B w0 w' p (M.aP a b c) (star (stars (aK p a0 A')) F)∧MM.sv (M.aP a b c)=(SM.meets M.sv A.am ref but).1∧A'.am=(SM.meets M.sv A.am ref but).2.1∧A'.jo=A.jo:=by
 obtain⟨⟨rr,rd⟩,hi⟩:∃ x,M.cls.xs[ref]?=some x:=⟨M.cls.xs[ref],by simp[hr]⟩;obtain⟨bc,hbc⟩:=h.IY (by omega);obtain⟨o1,o2⟩:=h.wI hbc hi;have c3:=h.uz;obtain⟨nc,hnc⟩:∃ n,M.cls.xs.length=n:=⟨_,rfl⟩;rw[hbc,hnc] at c3;simp only[Option.map_some] at c3;obtain⟨q1,q2⟩:=Cq hi;rw[q1] at hcv hn;obtain⟨ra,hra⟩:∃ ra,(rr.a.map fun b=>(⟨b,0,none⟩:Addr))=ra:=⟨_,rfl⟩;obtain⟨n,hnn⟩:∃ n,rr.xs.length=n:=⟨_,rfl⟩;rw[hra,hnn] at o1;rw[hnn] at hn;have r0:(0:Int)≤(ref:Int):=by omega
 have r1:(ref:Int)<(nc:Int):=by omega
 have s0:=(h.pJ 0).1;simp only[dK,List.getElem?_cons_zero] at s0;obtain⟨N,hN⟩:∃ N,M.value.xs.length=N:=⟨_,rfl⟩;have hsm:N≤100000:=by rw[←hN];exact hh.hb.small
 rw[hN] at hlv hml hcv;obtain⟨R,hR⟩:∃ R,SM.meets M.sv A.am ref but=R:=⟨_,rfl⟩;have hR2:SM.dF but M.sv A.am 0 rr.xs=R:=by rw[←hR];unfold SM.meets;rw[q1]
 rw[hR];have H:=zH h;have HH:=zH hh;have Ig:=zH hlv;have KA:=zH hml;have DC:=zH hcv;have HI:=zH hi;have HQ1:=zH q1;have KJ:=zH hra;have HN:=zH hnn;have DI:=zH hN;have HR:=zH hR2;have HZ:=zH hz;have HL:=zH hl;clear h hh hlv hml hcv hi q1 q2 hra hnn hbc hnc hr o2 hR hR2 hz hl hN
 go_enter Tryz.func108,Tryz.ntmps108
 go_wp2
 clear s0 c3 o1
 go_loopg [7,24] n (fun g s7 s24 wr=>∃ (k c:Nat) (a1 a2 a3:Fl Nat) (A':An),s7=.int .i64 c∧s24=.int .i64 k∧c≤k∧k≤n∧Hid (g=n-k) ∧
  Hid (At B w0 wr p (M.aP a1 a2 a3) (star (stars (aK p a0 A')) F))∧Hid (bG (MM.sv (M.aP a1 a2 a3)))∧Hid (A'.met.xs.length=N∧A'.zero.xs.length≤A.zero.xs.length+k∧A'.lits.xs.length≤A.lits.xs.length+k∧A'.jo=A.jo)∧Hid (SM.dF but (MM.sv (M.aP a1 a2 a3)) A'.am c (rr.xs.drop k)=R))
 case atStart=>exact⟨0,0,M.hl,M.place,M.met,A,rfl,rfl,Nat.le_refl _,Nat.zero_le _,rfl,H.out,HH.out,⟨KA.out,Nat.le_refl _,Nat.le_refl _,rfl⟩,HR.out⟩
 case round =>
  obtain⟨k,c,a1,a2,a3,A',rfl,rfl,hck,hkn,hg,H3,HV,HA,HE⟩:=hrel
  by_cases hkl:k<n
  ·have e2:decide ((k:Int)<(n:Int))=true:=by simp;omega
   obtain⟨bl,hbl⟩:=(H3.out.wY (M:=M.aP a1 a2 a3) HI.out).1 (by rw[HN.out];omega);obtain rfl:ra=some ⟨bl,0,none⟩:=by rw[←KJ.out,hbl];rfl
   obtain⟨l,hl⟩:∃ l,gn rr.xs k=l:=⟨_,rfl⟩;have hkx:k<rr.xs.length:=by rw[HN.out];exact hkl
   obtain⟨k3,_⟩:=H3.out.iE (M:=M.aP a1 a2 a3) HI.out hbl (j:=k) (x:=l) (by rw[←hl];exact aM _ _ hkx);have hlv:=DC.out l (by rw[←hl];exact aU _ _ hkx);have Ye:l<1000000:=by omega
   have hdr:rr.xs.drop k=l :: rr.xs.drop (k+1):=by rw[←hl,fD _ _ hkx];exact List.drop_eq_getElem_cons hkx
   have hE:=HE.out;rw[hdr,SM.dF] at hE;have qQ:=zH (fun V=>pQ l V Ye);obtain⟨q,hq⟩:∃ q,l/2=q:=⟨_,rfl⟩;rw[hq] at qQ hE hlv;have HE2:=zH hE;have p0:(0:Int)≤(k:Int):=by omega
   have p1:(k:Int)<(n:Int):=by omega
   clear hE hl hbl hdr hkx hq
   go_wp2_with fail
   refine (qQ.out _).mono ?_
   rintro e w3 ⟨rfl,rfl⟩
   by_cases agS:l=but
   ·have e3:decide ((l:Int)=(but:Int))=true:=by simp;omega
    go_wp2
    go_roundg (n-(k+1))
    case measure=>have:=hg.out;omega
    case rel=>exact⟨k+1,c,a1,a2,a3,A',rfl,by go_num,by omega,by omega,rfl,H3.out,HV.out,⟨HA.out.1,by have:=HA.out.2.1;omega,by have:=HA.out.2.2.1;omega,HA.out.2.2.2⟩,zH (by have h9:=HE2.out;rw[if_pos (Or.inl agS)] at h9;exact h9)⟩
   ·have e3:decide ((l:Int)=(but:Int))=false:=by simp;omega
    obtain⟨bm,yZ⟩:=H3.out.Yg (by rw[HA.out.1];omega);obtain⟨m,hm⟩:∃ m,gB A'.met.xs q=m:=⟨_,rfl⟩;have hqm:q<A'.met.xs.length:=by rw[HA.out.1];exact hlv
    obtain⟨k4,f4⟩:=H3.out.Yh yZ (i:=q) (x:=m) (by rw[←hm];exact jy _ _ hqm);have k5:=(H3.out.pJ 1).1;simp only[dK,List.getElem?_cons_succ,List.getElem?_cons_zero] at k5;rw[show A'.met.v=.slice (some ⟨bm,0,none⟩) N A'.met.c by unfold Fl.v;rw[yZ,HA.out.1];rfl] at k5;have q0:(0:Int)≤(q:Int):=by omega
    have q9:(q:Int)<(N:Int):=by omega
    cases m with
    | true =>
     simp only[vB] at k4
     go_wp2
     go_roundg (n-(k+1))
     case measure=>have:=hg.out;omega
     case rel=>exact⟨k+1,c,a1,a2,a3,A',rfl,by go_num,by omega,by omega,rfl,H3.out,HV.out,⟨HA.out.1,by have:=HA.out.2.1;omega,by have:=HA.out.2.2.1;omega,HA.out.2.2.2⟩,zH (by have h9:=HE2.out;rw[if_pos (show l=but∨gB A'.am.met q=true from Or.inr hm)] at h9;exact h9)⟩
    | false =>
     simp only[vB] at k4;have H4:=zH (show At B w0 (wr.setCell ⟨bm,q,none⟩ (.bool true)) p (M.aP a1 a2 a3) (star (stars (aK p a0 (A'.jw ⟨A'.met.a,A'.met.c,A'.met.xs.set q true⟩))) F) from H3.out.Yi yZ hqm true)
     go_upto_region 8 with fail
     have Yj:=HE2.out;rw[if_neg (show ¬ (l=but∨gB A'.am.met q=true) from fun h=>h.elim agS (fun h=>by rw[show gB A'.am.met q=false from hm] at h;cases h))] at Yj;have HE3:=zH Yj;have HM6:=zH (show (A'.met.xs.set q true).length=N by rw[List.length_set];exact HA.out.1);clear Yj k3 k4 k5 f4 hqm HE2;revert H4;generalize wr.setCell ⟨bm,q,none⟩ (.bool true)=w4;intro H4;have H4b:=H4;have k6:=(H4b.out.pJ 0).1;simp only[dK,List.getElem?_cons_zero] at k6;have hq3:q<(M.aP a1 a2 a3).value.xs.length:=by show q<M.value.xs.length;rw[DI.out];exact hlv
     have Hu:=zH (WI q H4b.out HV.out.hb hq3 (HV.out.WQ hq3));have HHM:=zH (HV.out.meet (v:=q) hq3);clear hq3 H4
     go_wp2_with fail
     refine Hu.out.mono ?_
     rintro e w5 ⟨rfl,b1,b2,b3,h5,h6⟩
     have H5:=zH (show At B w0 w5 p (M.aP b1 b2 b3) (star (stars (aK p a0 (A'.jw ⟨A'.met.a,A'.met.c,A'.met.xs.set q true⟩))) F) from h5);have tY:=zH (show MM.sv (M.aP b1 b2 b3)=(MM.sv (M.aP a1 a2 a3)).meet q from h6);have P7:=zH (show bG (MM.sv (M.aP b1 b2 b3)) by rw[tY.out];exact HHM.out);clear h5 h6 Hu HHM k6;obtain⟨lv,jN⟩:∃ lv,gn M.level.xs q=lv:=⟨_,rfl⟩;obtain⟨bv,hbv⟩:=H5.out.Dr (by show 0<M.level.xs.length;rw[Ig.out];omega);obtain⟨d1,_⟩:=H5.out.zx hbv (i:=q) (x:=lv) (by rw[←jN];exact aM _ _ (by show q<M.level.xs.length;rw[Ig.out];exact hlv));simp only[vN] at d1;have d2:=H5.out.vH;rw[hbv,show (M.aP b1 b2 b3).level.xs.length=N from Ig.out] at d2;simp only[Option.map_some] at d2;have k7:=(H5.out.pJ 0).1;simp only[dK,List.getElem?_cons_zero] at k7;have hE4:=HE3.out;rw[←tY.out,show gn (MM.sv (M.aP a1 a2 a3)).level q=lv from jN] at hE4;have HE4:=zH hE4
     obtain⟨ne,hne⟩:∃ ne,M.ends.xs.length=ne:=⟨_,rfl⟩;have tL:=zH hne;clear hE4 hne jN hbv
     by_cases hl0:lv=0
     ·subst hl0;have e5:decide (((0:Nat):Int)=0)=true:=by simp
      have k8:=(H5.out.pJ 2).1;simp only[dK,List.getElem?_cons_succ,List.getElem?_cons_zero] at k8;obtain⟨nz,hnz⟩:∃ nz,A'.zero.xs.length=nz:=⟨_,rfl⟩;rw[show (A'.jw ⟨A'.met.a,A'.met.c,A'.met.xs.set q true⟩).zero.v=.slice (A'.zero.a.map fun b=>⟨b,0,none⟩) nz A'.zero.c by rw[←hnz];rfl] at k8;have ht:=H5.out.KM;rw[show (A'.jw ⟨A'.met.a,A'.met.c,A'.met.xs.set q true⟩).zero.xs.length=nz from hnz] at ht;have HT:=zH ht;have UC:=zH hnz;have akO:nz≤2000000:=by have:=HA.out.2.1;have:=HZ.out;omega
      clear ht hnz
      go_wp2_with (at_builtin;refine aO rfl _ _ 27 3 (.int .i64 0) 8 rfl Tryz.underlying27 Tryz.bW rfl HT.out rfl (.int .i64 q) rfl rfl (by omega) (by simp only[maxLen];omega) ?_;intro b' c' w6 hs;have h6:=At.QS (M:=M.aP b1 b2 b3) (A:=A'.jw ⟨A'.met.a,A'.met.c,A'.met.xs.set q true⟩) (x:=q) H5.out.bA UC.out hs;have H6:=zH h6;clear hs h6;obtain⟨c7,f7⟩:=H6.out.1)
      go_roundg (n-(k+1))
      case measure=>have:=hg.out;omega
      case rel=>exact⟨k+1,c,b1,b2,b3,_,rfl,by go_num,by omega,by omega,rfl,H6.out.2,P7.out,⟨HM6.out,by show (A'.zero.xs++[q]).length≤_;rw[List.length_append,UC.out];have:=HA.out.2.1;rw[UC.out] at this;simp;omega,by show A'.lits.xs.length≤_;have:=HA.out.2.2.1;omega,HA.out.2.2.2⟩,zH (by have h9:=HE4.out;first | (rw[if_pos rfl] at h9;exact h9) | (rw[if_pos trivial] at h9;exact h9))⟩
     ·have e5:decide ((lv:Int)=0)=false:=by simp;omega
      have HAT:=zH (KE H5.out);rw[show (M.aP b1 b2 b3).ends.xs.length=ne from tL.out] at HAT
      go_wp2_with fail
      refine HAT.out.mono ?_
      rintro e w6 ⟨rfl,rfl⟩
      by_cases hle:lv=ne
      ·have e6:decide ((lv:Int)=(ne:Int))=true:=by simp;omega
       go_wp2
       go_roundg (n-(k+1))
       case measure=>have:=hg.out;omega
       case rel=>exact⟨k+1,c+1,b1,b2,b3,_,by go_num,by go_num,by omega,by omega,rfl,H5.out,P7.out,⟨HM6.out,by show A'.zero.xs.length≤_;have:=HA.out.2.1;omega,by show A'.lits.xs.length≤_;have:=HA.out.2.2.1;omega,HA.out.2.2.2⟩,zH (by have h9:=HE4.out;rw[if_neg hl0,if_pos (show lv=(MM.sv (M.aP a1 a2 a3)).ends.length from hle.trans tL.out.symm)] at h9;exact h9)⟩
      ·have e6:decide ((lv:Int)=(ne:Int))=false:=by simp;omega
       have k8:=(H5.out.pJ 3).1;simp only[dK,List.getElem?_cons_succ,List.getElem?_cons_zero] at k8;obtain⟨nz,hnz⟩:∃ nz,A'.lits.xs.length=nz:=⟨_,rfl⟩;rw[show (A'.jw ⟨A'.met.a,A'.met.c,A'.met.xs.set q true⟩).lits.v=.slice (A'.lits.a.map fun b=>⟨b,0,none⟩) nz A'.lits.c by rw[←hnz];rfl] at k8;have ht:=H5.out.vQ;rw[show (A'.jw ⟨A'.met.a,A'.met.c,A'.met.xs.set q true⟩).lits.xs.length=nz from hnz] at ht;have HT:=zH ht;have UC:=zH hnz;have akO:nz≤2000000:=by have:=HA.out.2.2.1;have:=HL.out;omega
       clear ht hnz
       go_wp2_with (at_builtin;refine aO rfl _ _ 85 98 (.int .u32 0) 4 rfl Tryz.underlying85 Tryz.Dz rfl HT.out rfl (.int .u32 l) rfl rfl (by omega) (by simp only[maxLen];omega) ?_;intro b' c' w6 hs;have h6:=At.QT (M:=M.aP b1 b2 b3) (A:=A'.jw ⟨A'.met.a,A'.met.c,A'.met.xs.set q true⟩) (x:=l) H5.out.bA UC.out hs;have H6:=zH h6;clear hs h6;obtain⟨c7,f7⟩:=H6.out.1)
       go_roundg (n-(k+1))
       case measure=>have:=hg.out;omega
       case rel=>exact⟨k+1,c,b1,b2,b3,_,rfl,by go_num,by omega,by omega,rfl,H6.out.2,P7.out,⟨HM6.out,by show A'.zero.xs.length≤_;have:=HA.out.2.1;omega,by show (A'.lits.xs++[l]).length≤_;rw[List.length_append,UC.out];have:=HA.out.2.2.1;rw[UC.out] at this;simp;omega,HA.out.2.2.2⟩,zH (by have h9:=HE4.out;rw[if_neg hl0,if_neg (show ¬ lv=(MM.sv (M.aP a1 a2 a3)).ends.length from fun h=>hle (h.trans tL.out))] at h9;exact h9)⟩
  ·obtain rfl:k=n:=by omega
   have e2:decide ((k:Int)<(k:Int))=false:=by simp
   have hE:R=(MM.sv (M.aP a1 a2 a3),A'.am,c):=by rw[←HE.out,List.drop_of_length_le (by rw[HN.out];exact Nat.le_refl _)];rfl
   have HEE:=zH hE;clear hE
   go_wp2
   go_ret
   exact⟨by rw[HEE.out];rfl,a1,a2,a3,A',H3.out,by rw[HEE.out],by rw[HEE.out],HA.out.2.2.2⟩
end
end Go.Proofs.YthbbmdnfkkffjaaGreat
namespace Go.Proofs.aC
open Go Go.RowKit
section
variable {P:Program} {ops:Array Oper} {rest:List Oper} {Q:Exit→Act→World→Prop} {o:Oper} {a:Act}
theorem wL {w:World} (t ty e:TypeId) (bytes:Nat) (z:Value) (ht:P.underlying t=some (.slice e)) (hinfo:(P.info? e).map (fun i=>(i.zero,i.size,i.bytes))=some (some z,1,bytes))
  (b k c:Nat) (ad:Addr) (m d:Nat) (news:List Value) (hl:news.length=m) (hnews:∀ (j:Nat) (u:Value),news[j]?=some u→w.cell? (ad.add j)=some u) (h1:∀ u∈news,u.oneCell'=true) (hroom:k+m≤c)
  (hc:∀ j,j<m→(w.cell? ⟨b,k+j,none⟩).isSome=true) (hf:∀ j,j<m→w.frozen? ⟨b,k+j,none⟩=false) :
  (Builtin.append_ #[t,t] ty #[.slice (some ⟨b,0,none⟩) k c,.slice (some ad) m d]).run P w=.ok (.slice (some ⟨b,0,none⟩) (k+m) c) (w.setCells b k news):=by
 obtain⟨i,hi,hzz⟩:=Option.map_eq_some_iff.1 hinfo;simp only[Prod.mk.injEq] at hzz;obtain⟨_,hz1,_⟩:=hzz;have:=run_append_room_cells (P:=P) (w:=w) t ty e i ht hi b 0 k c ad m d news (by rw[hz1];omega) hnews h1 hroom (fun j hj=>by rw[hz1,Nat.zero_add,Nat.mul_one];exact hc j (by omega)) (fun j hj=>by rw[hz1,Nat.zero_add,Nat.mul_one];exact hf j (by omega));rw[hz1,Nat.zero_add,Nat.mul_one] at this;exact this
theorem qW {w:World} (hgd:o.guard=none) (s x:Operand) (t e:TypeId) (z:Value) (bytes:Nat)
  (ho:o.op=.call { callee:=.builtin .append,args:=#[s,x],argTypes:=#[t,t] })
  (ht:P.underlying t=some (.slice e)) (hinfo:(P.info? e).map (fun i=>(i.zero,i.size,i.bytes))=some (some z,1,bytes)) (b k c:Nat)
  (hs:a.eval s=.slice (some ⟨b,0,none⟩) k c) (y:Value) (hx:a.eval x=.slice (some ⟨w.heap.size,0,none⟩) 1 1) (h1:y.oneCell'=true) (hroom:k+1≤c)
  (hc:(w.cell? ⟨b,k,none⟩).isSome=true) (hf:w.frozen? ⟨b,k,none⟩=false) (hb:b<w.heap.size)
  (h:wpList P ops Q rest (a.put o.dst (.slice (some ⟨b,0,none⟩) (k+1) c)) ((w.alloc (.cells #[y] e)).setCell ⟨b,k,none⟩ y)) :
  wpList P ops Q (o :: rest) a (w.alloc (.cells #[y] e)):=by
 refine wpList_plain hgd fun K hK=>?_
 have hr:=wL (P:=P) (w:=w.alloc (.cells #[y] e)) t o.type e bytes z ht hinfo b k c ⟨w.heap.size,0,none⟩ 1 1 [y] rfl (cell_one_new _ _ _) (by simpa using h1) hroom
  (fun j hj=>by
   obtain rfl:j=0:=by omega
   rw[Nat.add_zero,World.cell?_alloc_some _ _ _ hc];exact hc)
  (fun j hj=>by
   obtain rfl:j=0:=by omega
   rw[Nat.add_zero,World.frozen?_alloc_past _ _ _ hb];exact hf)
 unfold Oper.wp execOp;simp only[ho,resolve,invoke,builtin,Sem.run_bind,Sem.run_pure,Result.andThen_ok,List.map_toArray,List.map_cons,List.map_nil,hs,hx,hr];exact hK _ _ h
theorem uL {w:World} {K:Act→World→Prop} {E:Prop} (hgd:o.guard=none) (s x:Operand) (t e:TypeId) (z:Value) (bytes:Nat)
  (ho:o.op=.call { callee:=.builtin .append,args:=#[s,x],argTypes:=#[t,t] })
  (ht:P.underlying t=some (.slice e)) (hinfo:(P.info? e).map (fun i=>(i.zero,i.size,i.bytes))=some (some z,1,bytes)) (b k c:Nat)
  (hs:a.eval s=.slice (some ⟨b,0,none⟩) k c) (ad:Addr) (m d:Nat) (news:List Value) (hx:a.eval x=.slice (some ad) m d) (hl:news.length=m) (hnews:∀ (j:Nat) (u:Value),news[j]?=some u→w.cell? (ad.add j)=some u) (h1:∀ u∈news,u.oneCell'=true) (hroom:k+m≤c)
  (hc:∀ j,j<m→(w.cell? ⟨b,k+j,none⟩).isSome=true) (hf:∀ j,j<m→w.frozen? ⟨b,k+j,none⟩=false)
  (h:K (a.put o.dst (.slice (some ⟨b,0,none⟩) (k+m) c)) (w.setCells b k news)) :
  if Region.wanted o (yielded ops a.tmps)=true then Oper.wp P o a w K Q else E:=by
 have hw:Region.wanted o (yielded ops a.tmps)=true:=by simp[Region.wanted,hgd]
 rw[if_pos hw];have hr:=wL (P:=P) (w:=w) t o.type e bytes z ht hinfo b k c ad m d news hl hnews h1 hroom hc hf;unfold Oper.wp execOp;simp only[ho,resolve,invoke,builtin,Sem.run_bind,Sem.run_pure,Result.andThen_ok,List.map_toArray,List.map_cons,List.map_nil,hs,hx,hr];exact h
end
end Go.Proofs.aC
namespace Go.Proofs.YthbbmdnfkkffjaaGreat
open Go.RowKit Go.Proofs.aC Go.Proofs.au Go.Proofs.aA
def over:List Nat→Nat→List Nat→List Nat
 | xs,_,[]=>xs
 | xs,k,y :: r=>over (xs.set k y) (k+1) r
theorem MR:∀ (ys xs:List Nat) (k:Nat),(over xs k ys).length=xs.length
 | [],_,_=>rfl
 | y :: r,xs,k=>by rw[over,MR r,List.length_set]
theorem Jf:∀ (ys xs:List Nat) (k:Nat),k+ys.length≤xs.length→(over xs k ys).take (k+ys.length)=xs.take k++ys
 | [],xs,k,_=>by simp[over]
 | y :: r,xs,k,h=>by
  simp only[List.length_cons] at h;rw[over,List.length_cons,show k+(r.length+1)=(k+1)+r.length by omega,Jf r (xs.set k y) (k+1) (by rw[List.length_set];omega)];rw[List.take_succ_eq_append_getElem (show k<(xs.set k y).length by rw[List.length_set];omega),List.getElem_set_self,List.take_set,List.set_eq_of_length_le (by rw[List.length_take];omega)];simp
section
variable {B:Nat} {w0 w:World} {p:Nat} {M:MM} {F:HP}
theorem zQ {i:Nat} (a b:Fl Nat):(M.aY ⟨M.aj.a,M.aj.c,M.aj.xs.set i a⟩).aY ⟨M.aj.a,M.aj.c,(M.aj.xs.set i a).set i b⟩=M.aY ⟨M.aj.a,M.aj.c,M.aj.xs.set i b⟩:=by simp[MM.aY]
theorem At.zS {i b:Nat} {r:Fl Nat} (hb:r.a=some b):∀ (ys:List Nat) (xs:List Nat) (k:Nat) (w:World),i<M.aj.xs.length→At B w0 w p (M.aY ⟨M.aj.a,M.aj.c,M.aj.xs.set i ⟨r.a,r.c,xs⟩⟩) F→k+ys.length≤xs.length →
  At B w0 (w.setCells b k (ys.map vN)) p (M.aY ⟨M.aj.a,M.aj.c,M.aj.xs.set i ⟨r.a,r.c,over xs k ys⟩⟩) F
 | [],_,_,_,_,h,_=>h
 | y :: r',xs,k,w,hil,h,hl=>by
  simp only[List.length_cons] at hl;have h1:=h.zC (i:=i) (j:=k) (b:=b) (r:=⟨r.a,r.c,xs⟩) (by show (M.aj.xs.set i _)[i]?=_;rw[List.getElem?_set_self hil]) hb (by show k<xs.length;omega) y
  have h2:At B w0 (w.setCell ⟨b,k,none⟩ (vN y)) p (M.aY ⟨M.aj.a,M.aj.c,M.aj.xs.set i ⟨r.a,r.c,xs.set k y⟩⟩) F:=by
   rw[←zQ (M:=M) (i:=i) ⟨r.a,r.c,xs⟩ ⟨r.a,r.c,xs.set k y⟩];exact h1
  exact At.zS hb r' (xs.set k y) (k+1) _ hil h2 (by rw[List.length_set];omega)
theorem At.zT {i ob k:Nat} {r:Fl Nat} (h:At B w0 w p M F) (hi:M.aj.xs[i]?=some r) (hob:M.aj.a=some ob) (hk:k≤r.xs.length) :
  At B w0 (w.setCell ⟨ob,i,none⟩ (.slice (r.a.map fun b=>⟨b,0,none⟩) k r.c)) p (M.aY ⟨M.aj.a,M.aj.c,M.aj.xs.set i ⟨r.a,r.c,r.xs.take k⟩⟩) F:=by
 have h0:=h.iM hi;unfold Fl.hp at h0;have h1:St B w0 w (star (sl r.a k r.c 3 1 ((r.xs.map vN).take (k*1))) (dI p M i F)):=⟨h0.below,h0.base,h0.sat.wU k r.c (by have:=h0.sat.aR.2.1;omega) hk (Nat.le_refl _)⟩;have h2:=At.jQ hi h1;have hil:=bV hi;have h3:=h2.aX (Ps:=(parts p M).set 20 _) (k:=19) (P:=sl M.aj.a M.aj.xs.length M.aj.c 27 1 (M.aj.xs.map Fl.v)) rfl;rw[hob] at h3;have h4:=(h3.fH i (.slice (r.a.map fun b=>⟨b,0,none⟩) k r.c) (by simpa using hil)).aH (Ps:=(parts p M).set 20 (stars ((M.aj.rows 3 vN).set i (sl r.a k r.c 3 1 ((r.xs.map vN).take (k*1)))))) (k:=19) (by simp[parts]);refine⟨h4.aB ?_,h.bA⟩;have e1:(r.xs.take k).length=k:=by rw[List.length_take];omega
 simp only[parts,aI,Fl.v,Fl.hp,Fl.outer,List.length_set,List.set_cons_succ,List.set_cons_zero,Fa,List.map_set,List.map_take,Nat.mul_one,e1,hob]
end
structure agT (S:SM) (ref:Nat):Prop where
 ok:MF S
 lt:ref<S.cls.length
 n:S.cls.length≤1000000
 two:2≤(S.cl ref).length
 len:(S.cl ref).length≤1000000
 vars:∀ x∈S.cl ref,x/2<S.value.length
def qy (S:SM) (l i m:Nat):SM :=
 if (S.look (gn (gN S.aj l) i) l).2.1 then (S.look (gn (gN S.aj l) i) l).1
 else { (S.look (gn (gN S.aj l) i) l).1 with aj:=(S.look (gn (gN S.aj l) i) l).1.aj.set l ((gN (S.look (gn (gN S.aj l) i) l).1.aj l).set m (gn (gN S.aj l) i)) }
def yB (S:SM) (l i m:Nat):Nat:=if (S.look (gn (gN S.aj l) i) l).2.1 then m else m+1
def uM (S:SM) (l i:Nat):Bool:=(S.look (gn (gN S.aj l) i) l).2.2
theorem KN (f:Nat) (S:SM) (l i m:Nat):SM.kD (f+1) S l i m =
  if uM S l i then ({ qy S l i m with aj:=(qy S l i m).aj.set l ((gN (qy S l i m).aj l).take (yB S l i m)++(gN (qy S l i m).aj l).drop (i+1)) },(gn (gN S.aj l) i:Int))
  else SM.kD f (qy S l i m) l (i+1) (yB S l i m):=rfl
def lN:Nat→SM→Nat→Nat→Nat→Prop
 | 0,_,_,_,_=>True
 | f+1,S,l,i,m=>agT S (gn (gN S.aj l) i)∧S.bF l<0∧(uM S l i=false→lN f (qy S l i m) l (i+1) (yB S l i m))
def jR:Nat→SM→Prop
 | 0,_=>True
 | f+1,S=>S.trail.length≤900000∧S.next≤900000∧(S.next<S.trail.length→negL (gn S.trail S.next)<1000000∧negL (gn S.trail S.next)<S.aj.length∧(gN S.aj (negL (gn S.trail S.next))).length≤1000000 ∧
   lN (gN S.aj (negL (gn S.trail S.next))).length S (negL (gn S.trail S.next)) 0 0 ∧
   ((S.inner (negL (gn S.trail S.next))).2=-1→jR f { (S.inner (negL (gn S.trail S.next))).1 with next:=S.next+1 }))
end Go.Proofs.YthbbmdnfkkffjaaGreat

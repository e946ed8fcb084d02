/-
  Parts of the proof, joined by program: Lk.
-/
import Derived.Test.YthbbmdnfkkffjaaGreatY04
import Derived.Test.YthbbmdnfkkffjaaGreatY08
import Derived.Test.YthbbmdnfkkffjaaGreatY09
import Derived.Test.YthbbmdnfkkffjaaGreatY06
import Derived.Test.YthbbmdnfkkffjaaGreatY10
import Derived.Test.YthbbmdnfkkffjaaGreatY01
import Derived.Deep.RegionHeld3
import Derived.Deep.RegionLaw
import Derived.Lib.Hide
set_option maxHeartbeats 8000000
set_option maxRecDepth 100000
namespace Go.Proofs.YthbbmdnfkkffjaaGreat
open Go.RowKit Go.Proofs.aC Go.Proofs.au Go.Proofs.aA
abbrev MM.bq (M:MM) (ref:Nat) (r:Fl Nat) (d:Int) (c:List Nat):MM:=M.DZ ⟨M.cls.a,M.cls.c,M.cls.xs.set ref (⟨r.a,r.c,c⟩,d)⟩
theorem Cq {M:MM} {ref:Nat} {r:Fl Nat} {d:Int} (hi:M.cls.xs[ref]?=some (r,d)):M.sv.cl ref=r.xs∧M.sv.id ref=d:=by
 unfold SM.cl SM.id;have:M.sv.cls[ref]?=some (r.xs,d):=by show (M.cls.xs.map fun x=>(x.1.xs,x.2))[ref]?=_;rw[List.getElem?_map,hi];rfl
 simp[List.getD_eq_getElem?_getD,this]
theorem pR {M:MM} {ref:Nat} {r:Fl Nat} {d:Int} (hi:M.cls.xs[ref]?=some (r,d)) (c:List Nat):MM.sv (M.bq ref r d c)=M.sv.dB ref c:=by
 unfold SM.dB;rw[(Cq hi).2];show ({ M.sv with cls:=(M.cls.xs.set ref (⟨r.a,r.c,c⟩,d)).map fun x=>(x.1.xs,x.2) }:SM)={ M.sv with cls:=(M.cls.xs.map fun x=>(x.1.xs,x.2)).set ref (c,d) };rw[List.map_set]
theorem dP {M:MM} {ref:Nat} {r:Fl Nat} {d:Int} (hi:M.cls.xs[ref]?=some (r,d)) (c:List Nat):(M.bq ref r d c).cls.xs[ref]?=some (⟨r.a,r.c,c⟩,d):=by
 show (M.cls.xs.set ref (⟨r.a,r.c,c⟩,d))[ref]?=_;rw[List.getElem?_set_self (bV hi)]
theorem Bq {M:MM} {ref:Nat} {r:Fl Nat} {d:Int} (c c':List Nat):(M.bq ref r d c).bq ref ⟨r.a,r.c,c⟩ d c'=M.bq ref r d c':=by
 simp[MM.bq,MM.DZ]
theorem UF {M:MM} {ref:Nat} {r:Fl Nat} {d:Int} (hi:M.cls.xs[ref]?=some (r,d)):M.bq ref r d r.xs=M:=by
 have:M.cls.xs.set ref (⟨r.a,r.c,r.xs⟩,d)=M.cls.xs:=by
  apply List.ext_getElem?;intro m
  by_cases e:m=ref
  ·subst e;rw[hi,List.getElem?_set_self (bV hi)]
  ·rw[List.getElem?_set_ne (fun h=>e h.symm)]
 simp[MM.bq,MM.DZ,this]
structure MF (S:SM):Prop where
 small:S.value.length≤100000
 sz:Sz S
 vals:∀ x∈S.value,Da x
 trail:S.trail.length≤900000
 rows:∀ r∈S.aj,r.length≤1000000
theorem MF.val {S:SM} (h:MF S) (k:Nat):Da (gi S.value k):=by
 by_cases hk:k<S.value.length
 ·rw[dh _ _ hk];exact h.vals _ (List.getElem_mem hk)
 ·rw[show gi S.value k=0 by simp[gi,List.getD_eq_getElem?_getD,List.getElem?_eq_none (Nat.le_of_not_lt hk)]];exact .inr (.inr rfl)
def UG (B:Nat) (w0:World) (p:Nat) (M:MM) (F:HP) (R:SM×Bool×Bool) (e:Ending) (w':World):Prop :=
 e=.returned (.tuple #[.bool R.2.1,.bool R.2.2])∧∃ M',At B w0 w' p M' F∧M'.sv=R.1∧M'.aj.a=M.aj.a∧M'.aj.c=M.aj.c∧∀ j,M.sv.bF j<0→M'.aj.xs[j]?=M.aj.xs[j]?
def mJ (S:SM) (ref:Nat) (c:List Nat):SM×Bool×Bool :=
 if 0<S.bF (gn c 0) then (S.dB ref c,false,false)
 else match S.iK (c.length-2) c 2 with
  | some i=>((S.dB ref (SM.dG c 1 i)).watch (gn c i) ref,true,false)
  | none=>if S.bF (gn c 0)<0 then (S.dB ref c,false,true) else ((S.dB ref c).bX (gn c 0) ref,false,false)
theorem yA (S:SM) (ref l:Nat):S.look ref l=mJ S ref (if gn (S.cl ref) 0=l then SM.dG (S.cl ref) 0 1 else S.cl ref):=rfl
theorem Fv {S:SM} {c:List Nat}:∀ {f i k:Nat},SM.iK S f c i=some k→i≤k∧k<i+f∧0≤S.bF (gn c k)
 | 0,_,_,h=>by cases h
 | f+1,i,k,h=>by
  rw[SM.iK] at h
  split at h
  ·cases h;exact⟨Nat.le_refl _,by omega,by assumption⟩
  ·obtain⟨a,b,d⟩:=Fv h;exact⟨by omega,by omega,d⟩
theorem lW (c:List Nat) (i j:Nat):(SM.dG c i j).length=c.length:=by simp[SM.dG]
theorem Fw {c:List Nat} {i j x:Nat} (hi:i<c.length) (hj:j<c.length) (h:x∈SM.dG c i j):x∈c:=by
 unfold SM.dG at h;rcases List.mem_or_eq_of_mem_set h with h1 | rfl
 ·rcases List.mem_or_eq_of_mem_set h1 with h2 | rfl
  ·exact h2
  ·exact aU _ _ hj
 ·exact aU _ _ hi
section
variable {B:Nat} {w0 w:World} {p:Nat} {M:MM} {F:HP}
theorem At.Fx (h:At B w0 w p M F) {ref i j b:Nat} {r:Fl Nat} {d:Int} (hi:M.cls.xs[ref]?=some (r,d)) (hb:r.a=some b) (h1:i<r.xs.length) (h2:j<r.xs.length) :
  At B w0 ((w.setCell ⟨b,i,none⟩ (.int .u32 (gn r.xs j))).setCell ⟨b,j,none⟩ (.int .u32 (gn r.xs i))) p (M.bq ref r d (SM.dG r.xs i j)) F:=by
 have g1:=h.Mj hi hb h1 (gn r.xs j);have g2:=g1.Mj (dP hi _) (j:=j) hb (by show j<(r.xs.set i (gn r.xs j)).length;rw[List.length_set];exact h2) (gn r.xs i);have e:=Bq (M:=M) (ref:=ref) (r:=r) (d:=d) (r.xs.set i (gn r.xs j)) ((r.xs.set i (gn r.xs j)).set j (gn r.xs i));unfold SM.dG;rw[←e];exact g2
theorem At.pU {i ref j b:Nat} {r rc:Fl Nat} {d:Int} {Q:HP} {x:Nat} (hi:M.aj.xs[i]?=some r) (h:St B w0 w (star Q (dI p M i F))) (hc:M.cls.xs[ref]?=some (rc,d)) (hb:rc.a=some b) (hj:rc.xs[j]?=some x):w.cell? ⟨b,j,none⟩=some (.int .u32 x):=by
 have h1:=At.jQ hi h;have h2:=h1.aX (Ps:=(parts p M).set 20 _) (k:=18) (P:=stars (nN M.cls.xs)) rfl;rw[aZ (Fe hc)] at h2;have h3:St B w0 w (star (sl (some b) rc.xs.length rc.c 98 1 (rc.xs.map vL)) (star (stars ((nN M.cls.xs).eraseIdx ref)) (star (stars (((parts p M).set 20 (stars ((M.aj.rows 3 vN).set i Q))).eraseIdx 18)) F))):=h2.aB (by unfold Fl.hp;rw[hb];ac_rfl);rw[h3.aW j (by rw[List.length_map];exact bV hj),List.getElem?_map,hj];rfl
theorem UH (ref l:Nat) (h:At B w0 w p M F) (hk:MF M.sv) (hr:ref<M.cls.xs.length) (hn:M.cls.xs.length≤1000000) (hl2:2≤(M.sv.cl ref).length) (hls:(M.sv.cl ref).length≤1000000) (hlv:∀ x∈M.sv.cl ref,x/2<M.value.xs.length) (hl:l<1000000) :
  Calls Tryz.prog 87 #[.pointer (some ⟨p,0,none⟩),.int .i64 ref,.int .u32 l] w (UG B w0 p M F (M.sv.look ref l)):=by
 obtain⟨⟨r,d⟩,hi⟩:∃ x,M.cls.xs[ref]?=some x:=⟨M.cls.xs[ref],by simp[hr]⟩;have hcl:=(Cq hi).1;rw[hcl] at hl2 hls hlv;obtain⟨bc,hbc⟩:=h.IY (by omega);obtain⟨o1,o2⟩:=h.wI hbc hi;obtain⟨b,hb⟩:=(h.wY hi).1 (by omega);have c5:=h.uz;obtain⟨nc,hnc⟩:∃ nc,M.cls.xs.length=nc:=⟨_,rfl⟩;obtain⟨ln,hln⟩:∃ ln,r.xs.length=ln:=⟨_,rfl⟩;rw[hbc,hnc] at c5;rw[hb,hln] at o1;obtain⟨e0,f0⟩:=h.iE hi hb (aM r.xs 0 (by omega));obtain⟨e1,f1⟩:=h.iE hi hb (aM r.xs 1 (by omega));simp only[Option.map_some] at c5 o1;have MG:M.sv.look ref l=mJ M.sv ref (if gn r.xs 0=l then SM.dG r.xs 0 1 else r.xs):=by rw[yA,hcl]
 obtain⟨x0,hx0⟩:∃ x,gn r.xs 0=x:=⟨_,rfl⟩;obtain⟨x1,hx1⟩:∃ x,gn r.xs 1=x:=⟨_,rfl⟩;rw[hx0] at e0;rw[hx1] at e1;rw[hnc] at hr hn;rw[hln] at hl2 hls;have n1:¬ b=p:=(h.adH hi hb).1;have H:=zH h;have HK:=zH hk;have HI:=zH hi;have HB:=zH hb;have fP:=zH hln;have Ig:=zH hlv;have acL:=zH MG;have HX0:=zH hx0;have HX1:=zH hx1;have r0:(0:Int)≤(ref:Int):=by omega
 have r1:(ref:Int)<(nc:Int):=by omega
 have l0:(0:Int)<(ln:Int):=by omega
 have l1:(1:Int)<(ln:Int):=by omega
 clear h hk hi hcl hbc hb hnc hln MG hx0 hx1 hlv
 by_cases hc0:x0=l
 ·subst hc0;obtain⟨cc,hcc⟩:∃ cc,SM.dG r.xs 0 1=cc:=⟨_,rfl⟩;have HL2:=zH (show M.sv.look ref x0=mJ M.sv ref cc by rw[acL.out,if_pos HX0.out,hcc]);have jW:=zH (show cc.length=ln by rw[←hcc,lW,fP.out]);have DC:=zH (show ∀ x∈cc,x/2<M.value.xs.length from fun x hx=>by rw[←hcc] at hx;exact Ig.out x (Fw (by rw[fP.out];omega) (by rw[fP.out];omega) hx))
  have H1:=zH (show At B w0 ((w.setCell ⟨b,0,none⟩ (.int .u32 x1)).setCell ⟨b,1,none⟩ (.int .u32 x0)).drew p (M.bq ref r d cc) F by
   have:=(H.out.Fx HI.out HB.out (i:=0) (j:=1) (by rw[fP.out];omega) (by rw[fP.out];omega)).drewN 1;rw[hcc,HX0.out,HX1.out] at this
   exact this)
  clear hcc
  go_enter Tryz.func87,Tryz.ntmps87
  go_wp2
  go_region
  have h1:=H1.out;clear H1 e0 e1 f0 f1 c5 o1 o2;revert h1;generalize ((w.setCell ⟨b,0,none⟩ (.int .u32 x1)).setCell ⟨b,1,none⟩ (.int .u32 x0)).drew=w1;intro h1;have H1:=zH h1;clear h1;obtain⟨e4,f4⟩:=H1.out.iE (dP HI.out cc) HB.out (j:=0) (x:=gn cc 0) (aM cc 0 (by rw[jW.out];omega));have HIS:=zH (mQ (gn cc 0) H1.out (DC.out _ (aU _ _ (by rw[jW.out];omega))) HK.out.small (HK.out.val _));obtain⟨y0,hy0⟩:∃ y,gn cc 0=y:=⟨_,rfl⟩;rw[hy0] at e4 HIS;obtain⟨s0,hs0⟩:∃ s,M.sv.bF y0=s:=⟨_,rfl⟩;rw[show (MM.sv (M.bq ref r d cc)).bF y0=s0 from hs0] at HIS;have UJ:=zH hy0;have bB:=zH hs0;clear hy0 hs0
  go_wp2_with fail
  refine HIS.out.mono ?_
  rintro e w2 ⟨rfl,hd⟩
  have H2:=zH (H1.out.drawn hd);clear hd HIS e4 f4
  by_cases hp:0<s0
  ·have e5:decide (0<s0)=true:=by simpa using hp
   have HR:=zH (show M.sv.look ref x0=(M.sv.dB ref cc,false,false) by rw[HL2.out];unfold mJ;rw[UJ.out,bB.out,if_pos hp])
   go_wp2
   go_ret2
   exact⟨by rw[HR.out];rfl,_,H2.out,by rw[HR.out];exact pR HI.out cc,rfl,rfl,fun _ _=>rfl⟩
  ·have e5:decide (0<s0)=false:=by simpa using hp
   have HG0:=zH (show M.sv.look ref x0=(match M.sv.iK (ln-2) cc 2 with
    | some i=>((M.sv.dB ref (SM.dG cc 1 i)).watch (gn cc i) ref,true,false)
    | none=>if s0<0 then (M.sv.dB ref cc,false,true) else ((M.sv.dB ref cc).bX y0 ref,false,false)) by
    rw[HL2.out];unfold mJ;rw[UJ.out,bB.out,if_neg hp,jW.out])
   go_wp2
   go_loopg [9] (ln-2) (fun g s9 wr=>∃ i:Nat,s9=.int .i64 i∧2≤i∧i≤ln∧Hid (g=ln-i)∧Hid (At B w0 wr p (M.bq ref r d cc) F)∧Hid (M.sv.iK (ln-i) cc i=M.sv.iK (ln-2) cc 2))
   case atStart=>exact⟨2,rfl,Nat.le_refl _,hl2,rfl,H2.out,rfl⟩
   case round =>
    obtain⟨i,rfl,hi2,hin,hg,H3,HFW⟩:=hrel
    by_cases hil:i<ln
    ·obtain⟨e4,f4⟩:=H3.out.iE (dP HI.out cc) HB.out (j:=i) (x:=gn cc i) (aM cc i (by rw[jW.out];exact hil));have hyv:=DC.out _ (aU cc i (by rw[jW.out];exact hil));have HIS:=zH (mQ (gn cc i) H3.out hyv HK.out.small (HK.out.val _));obtain⟨y,hy⟩:∃ y,gn cc i=y:=⟨_,rfl⟩;rw[hy] at e4 HIS hyv;obtain⟨sy,hsy⟩:∃ s,M.sv.bF y=s:=⟨_,rfl⟩;rw[show (MM.sv (M.bq ref r d cc)).bF y=sy from hsy] at HIS;have HY:=zH hy;have HSY:=zH hsy;have i0:(0:Int)≤(i:Int):=by omega
     have i1:(i:Int)<(ln:Int):=by omega
     have hfw:=HFW.out;rw[show ln-i=(ln-(i+1))+1 by omega,SM.iK,hy,hsy] at hfw;have WR:=zH hfw;clear hy hsy hfw
     go_wp2_with fail
     refine HIS.out.mono ?_
     rintro e w3 ⟨rfl,hd⟩
     have H4:=zH (H3.out.drawn hd);clear hd HIS e4 f4
     by_cases hs:0≤sy
     ·have e6:decide (0≤sy)=true:=by simpa using hs
      obtain⟨e5,f5⟩:=H4.out.iE (dP HI.out cc) HB.out (j:=i) (x:=y) (by rw[aM cc i (by rw[jW.out];exact hil),HY.out]);obtain⟨e7,f7⟩:=H4.out.iE (dP HI.out cc) HB.out (j:=1) (x:=gn cc 1) (aM cc 1 (by rw[jW.out];omega));obtain⟨y1,hy1⟩:∃ y,gn cc 1=y:=⟨_,rfl⟩;rw[hy1] at e7;have hne:¬ i=1:=by omega
      have hne2:¬ 1=i:=by omega
      obtain⟨c4,hc4⟩:∃ c,SM.dG cc 1 i=c:=⟨_,rfl⟩
      have h5:At B w0 ((w3.setCell ⟨b,1,none⟩ (.int .u32 y)).setCell ⟨b,i,none⟩ (.int .u32 y1)).drew p (M.bq ref r d c4) F:=by
       have:=(H4.out.Fx (dP HI.out cc) HB.out (i:=1) (j:=i) (by show 1<cc.length;rw[jW.out];omega) (by show i<cc.length;rw[jW.out];exact hil)).drewN 1;rw[show (Fl.mk r.a r.c cc).xs=cc from rfl,HY.out,hy1,Bq,hc4] at this;exact this
      have hg1:gn c4 1=y:=by rw[←hc4];unfold SM.dG;rw[fB (by omega),iF (by rw[jW.out];omega),HY.out]
      have WS:c4.length=ln:=by rw[←hc4,lW,jW.out]
      have HR:=zH (show M.sv.look ref x0=((M.sv.dB ref c4).watch y ref,true,false) by
       rw[HG0.out,←WR.out,if_pos hs];simp only
       rw[hc4,HY.out])
      have H5:=zH h5;have Jb:=zH hg1;have HC4:=zH WS;clear hy1 hc4 h5 hg1 WS
      go_wp2
      go_region
      have h5:=H5.out;clear e5 f5 e7 f7 H5 H4;revert h5;generalize ((w3.setCell ⟨b,1,none⟩ (.int .u32 y)).setCell ⟨b,i,none⟩ (.int .u32 y1)).drew=w4;intro h5
      have hwl:y<M.aj.xs.length:=by
       have h8:(M.aj.xs.map (·.xs)).length=2*M.value.xs.length:=HK.out.sz.aj;rw[List.length_map] at h8;omega
      obtain⟨mU,hrw⟩:∃ x,M.aj.xs[y]?=some x:=⟨M.aj.xs[y],by simp[hwl]⟩;obtain⟨bw,hbw⟩:=h5.qL (by show 0<M.aj.xs.length;omega);obtain⟨o3,o4⟩:=h5.kX hbw hrw;obtain⟨e8,f8⟩:=h5.iE (dP HI.out c4) HB.out (j:=1) (x:=y) (by rw[aM c4 1 (by rw[HC4.out];omega),Jb.out]);have c6:=h5.iD;obtain⟨nw,hnw⟩:∃ nw,M.aj.xs.length=nw:=⟨_,rfl⟩;obtain⟨nr,hnr⟩:∃ nr,mU.xs.length=nr:=⟨_,rfl⟩
      have akn:nr≤1000000:=by
       rw[←hnr];exact HK.out.rows _ (List.mem_map.2 ⟨mU,List.mem_of_getElem? hrw,rfl⟩)
      rw[hbw,show (M.bq ref r d c4).aj.xs.length=nw from hnw] at c6;rw[hnr] at o3;simp only[Option.map_some] at c6;have hrow:=h5.iM hrw;unfold Fl.hp at hrow;rw[hnr] at hrow;have Dc:=zH hrow;have HRW:=zH hrw;have HBW:=zH hbw;have HNR:=zH hnr;have AZ:=zH hnw;have akp:=zH h5.bA;have y0':(0:Int)≤(y:Int):=by omega
      have y1':(y:Int)<(nw:Int):=by omega
      have q6:∀ o,(w4.alloc o).cell? ⟨p,6,none⟩=some (.slice (some ⟨bw,0,none⟩) nw M.aj.c):=fun o=>(World.cell?_alloc_some _ _ _ (by rw[c6];rfl)).trans c6;have q8:∀ o,(w4.alloc o).cell? ⟨b,1,none⟩=some (.int .u32 y):=fun o=>(World.cell?_alloc_some _ _ _ (by rw[e8];rfl)).trans e8;have q3:∀ o,(w4.alloc o).cell? ⟨bw,y,none⟩=some (.slice (mU.a.map fun b=>⟨b,0,none⟩) nr mU.c):=fun o=>(World.cell?_alloc_some _ _ _ (by rw[o3];rfl)).trans o3
      have UK:=zH (show ∀ (b' c':Nat) (w5:World),St B w0 w5 (star (sl (some b') (nr+1) c' 3 1 (mU.xs.map vN++[vN ref])) (dI p (M.bq ref r d c4) y F)) →
        w5.cell? ⟨p,6,none⟩=some (.slice (some ⟨bw,0,none⟩) nw M.aj.c)∧(w5.cell? ⟨bw,y,none⟩=some (.slice (mU.a.map fun b=>⟨b,0,none⟩) nr mU.c)∧w5.frozen? ⟨bw,y,none⟩=false)∧w5.cell? ⟨b,1,none⟩=some (.int .u32 y) ∧
        (w5.setCell ⟨bw,y,none⟩ (.slice (some ⟨b',0,none⟩) (nr+1) c')).cell? ⟨p,6,none⟩=some (.slice (some ⟨bw,0,none⟩) nw M.aj.c)∧(w5.setCell ⟨bw,y,none⟩ (.slice (some ⟨b',0,none⟩) (nr+1) c')).cell? ⟨b,1,none⟩=some (.int .u32 y) ∧
        At B w0 (w5.setCell ⟨bw,y,none⟩ (.slice (some ⟨b',0,none⟩) (nr+1) c')) p ((M.bq ref r d c4).aY ⟨M.aj.a,M.aj.c,M.aj.xs.set y ⟨some b',c',mU.xs++[ref]⟩⟩) F from fun b' c' w5 h6=>by
       obtain⟨g1,g2,g3⟩:=At.qp (M:=M.bq ref r d c4) (x:=ref) h5.bA hrw hbw hnr h6;have g4:=At.pU (M:=M.bq ref r d c4) (rc:=⟨r.a,r.c,c4⟩) hrw h6 (dP HI.out c4) HB.out (j:=1) (x:=y) (by rw[aM c4 1 (by rw[HC4.out];omega),Jb.out]);have g5:=g3.iD;have g6:=(g3.iE (dP HI.out c4) HB.out (j:=1) (x:=y) (by rw[aM c4 1 (by rw[HC4.out];omega),Jb.out])).1;rw[show (M.bq ref r d c4).aj.xs.length=nw from hnw] at g1;rw[show ((M.bq ref r d c4).aY ⟨M.aj.a,M.aj.c,M.aj.xs.set y ⟨some b',c',mU.xs++[ref]⟩⟩).aj.a=some bw from hbw,show ((M.bq ref r d c4).aY ⟨M.aj.a,M.aj.c,M.aj.xs.set y ⟨some b',c',mU.xs++[ref]⟩⟩).aj.xs.length=nw by show (M.aj.xs.set y _).length=nw;rw[List.length_set];exact hnw] at g5
       exact⟨g1,g2,g4,g5,g6,g3⟩)
      clear hrow hrw hbw hnr hnw h5
      go_wp2
      refine dn 20 (fun V:World=>V.cell? ⟨p,6,none⟩=some (.slice (some ⟨bw,0,none⟩) nw M.aj.c)∧V.cell? ⟨b,1,none⟩=some (.int .u32 y)∧V.cell? ⟨bw,y,none⟩=some (.slice (mU.a.map fun b=>⟨b,0,none⟩) nr mU.c)) (by kernel_rfl) ?_;have bB:(fun V:World=>V.cell? ⟨p,6,none⟩=some (.slice (some ⟨bw,0,none⟩) nw M.aj.c)∧V.cell? ⟨b,1,none⟩=some (.int .u32 y)∧V.cell? ⟨bw,y,none⟩=some (.slice (mU.a.map fun b=>⟨b,0,none⟩) nr mU.c)) w4.drew:=⟨c6,e8,o3⟩;refine ay (i:=0) (v:=?v1) rfl (by kernel_rfl) (by kernel_rfl) (by kernel_rfl) (by kernel_rfl) (fun _ _ _ h=>h) rfl ?hy1 bB ?_
      case hy1 =>
       intro V aF
       try dsimp only at aF
       go_simp
       try with_reducible rfl
      try simp only[Act.put,List.setIfInBounds_toArray,List.set_cons_zero,List.set_cons_succ]
      refine ay (i:=1) (v:=?v2) rfl (by kernel_rfl) (by kernel_rfl) (by kernel_rfl) (by kernel_rfl) (fun _ _ _ h=>h) rfl ?hy2 bB ?_
      case hy2 =>
       intro V aF
       try dsimp only at aF
       go_simp
       try with_reducible rfl
      try simp only[Act.put,List.setIfInBounds_toArray,List.set_cons_zero,List.set_cons_succ]
      refine ay (i:=2) (v:=?v3) rfl (by kernel_rfl) (by kernel_rfl) (by kernel_rfl) (by kernel_rfl) (fun _ _ _ h=>h) rfl ?hy3 bB ?_
      case hy3 =>
       intro V aF
       try dsimp only at aF
       go_simp
       try with_reducible rfl
      try simp only[Act.put,List.setIfInBounds_toArray,List.set_cons_zero,List.set_cons_succ]
      refine ay (i:=3) (v:=?v4) rfl (by kernel_rfl) (by kernel_rfl) (by kernel_rfl) (by kernel_rfl) (fun _ _ _ h=>h) rfl ?hy4 bB ?_
      case hy4 =>
       intro V aF
       try dsimp only at aF
       go_simp
       try with_reducible rfl
      try simp only[Act.put,List.setIfInBounds_toArray,List.set_cons_zero,List.set_cons_succ]
      refine ay (i:=4) (v:=?v5) rfl (by kernel_rfl) (by kernel_rfl) (by kernel_rfl) (by kernel_rfl) (fun _ _ _ h=>h) rfl ?Qx bB ?_
      case Qx =>
       intro V aF
       try dsimp only at aF
       go_simp
       try with_reducible rfl
      try simp only[Act.put,List.setIfInBounds_toArray,List.set_cons_zero,List.set_cons_succ]
      refine ay (i:=5) (v:=?v6) rfl (by kernel_rfl) (by kernel_rfl) (by kernel_rfl) (by kernel_rfl) (fun _ _ _ h=>h) rfl ?Ih bB ?_
      case Ih =>
       intro V aF
       try dsimp only at aF
       go_simp
       try with_reducible rfl
      try simp only[Act.put,List.setIfInBounds_toArray,List.set_cons_zero,List.set_cons_succ]
      refine ay (i:=6) (v:=?v7) rfl (by kernel_rfl) (by kernel_rfl) (by kernel_rfl) (by kernel_rfl) (fun _ _ _ h=>h) rfl ?UL bB ?_
      case UL =>
       intro V aF
       try dsimp only at aF
       go_simp
       try with_reducible rfl
      try simp only[Act.put,List.setIfInBounds_toArray,List.set_cons_zero,List.set_cons_succ]
      refine ay (i:=7) (v:=?v8) rfl (by kernel_rfl) (by kernel_rfl) (by kernel_rfl) (by kernel_rfl) (fun _ _ _ h=>h) rfl ?WT bB ?_
      case WT =>
       intro V aF
       try dsimp only at aF
       go_simp
       try with_reducible rfl
      try simp only[Act.put,List.setIfInBounds_toArray,List.set_cons_zero,List.set_cons_succ]
      refine ay (i:=8) (v:=?v9) rfl (by kernel_rfl) (by kernel_rfl) (by kernel_rfl) (by kernel_rfl) (fun _ _ _ h=>h) rfl ?hy9 bB ?_
      case hy9 =>
       intro V aF
       try dsimp only at aF
       go_simp
       try with_reducible rfl
      try simp only[Act.put,List.setIfInBounds_toArray,List.set_cons_zero,List.set_cons_succ]
      refine ay (i:=9) (v:=?v10) rfl (by kernel_rfl) (by kernel_rfl) (by kernel_rfl) (by kernel_rfl) (fun _ _ _ h=>h) rfl ?KG bB ?_
      case KG =>
       intro V aF
       try dsimp only at aF
       go_simp
       try with_reducible rfl
      try simp only[Act.put,List.setIfInBounds_toArray,List.set_cons_zero,List.set_cons_succ]
      refine ay (i:=10) (v:=?v11) rfl (by kernel_rfl) (by kernel_rfl) (by kernel_rfl) (by kernel_rfl) (fun _ _ _ h=>h) rfl ?KH bB ?_
      case KH =>
       intro V aF
       try dsimp only at aF
       go_simp
       try with_reducible rfl
      try simp only[Act.put,List.setIfInBounds_toArray,List.set_cons_zero,List.set_cons_succ]
      refine ay (i:=11) (v:=?v12) rfl (by kernel_rfl) (by kernel_rfl) (by kernel_rfl) (by kernel_rfl) (fun _ _ _ h=>h) rfl ?Qy bB ?_
      case Qy =>
       intro V aF
       try dsimp only at aF
       go_simp
       try with_reducible rfl
      try simp only[Act.put,List.setIfInBounds_toArray,List.set_cons_zero,List.set_cons_succ]
      refine ay (i:=12) (v:=?v13) rfl (by kernel_rfl) (by kernel_rfl) (by kernel_rfl) (by kernel_rfl) (fun _ _ _ h=>h) rfl ?Qz bB ?_
      case Qz =>
       intro V aF
       try dsimp only at aF
       go_simp
       try with_reducible rfl
      try simp only[Act.put,List.setIfInBounds_toArray,List.set_cons_zero,List.set_cons_succ]
      refine ay (i:=13) (v:=?v14) rfl (by kernel_rfl) (by kernel_rfl) (by kernel_rfl) (by kernel_rfl) (fun _ _ _ h=>h) rfl ?QA bB ?_
      case QA =>
       intro V aF
       try dsimp only at aF
       go_simp
       try with_reducible rfl
      try simp only[Act.put,List.setIfInBounds_toArray,List.set_cons_zero,List.set_cons_succ]
      refine ay (i:=14) (v:=?v15) rfl (by kernel_rfl) (by kernel_rfl) (by kernel_rfl) (by kernel_rfl) (fun _ _ _ h=>h) rfl ?QB bB ?_
      case QB =>
       intro V aF
       try dsimp only at aF
       go_simp
       try with_reducible rfl
      try simp only[Act.put,List.setIfInBounds_toArray,List.set_cons_zero,List.set_cons_succ]
      refine ay (i:=15) (v:=?v16) rfl (by kernel_rfl) (by kernel_rfl) (by kernel_rfl) (by kernel_rfl) (fun _ _ _ h=>h) rfl ?QC bB ?_
      case QC =>
       intro V aF
       try dsimp only at aF
       go_simp
       try with_reducible rfl
      try simp only[Act.put,List.setIfInBounds_toArray,List.set_cons_zero,List.set_cons_succ]
      refine ay (i:=16) (v:=?v17) rfl (by kernel_rfl) (by kernel_rfl) (by kernel_rfl) (by kernel_rfl) (fun _ _ _ h=>h) rfl ?QD bB ?_
      case QD =>
       intro V aF
       try dsimp only at aF
       go_simp
       try with_reducible rfl
      try simp only[Act.put,List.setIfInBounds_toArray,List.set_cons_zero,List.set_cons_succ]
      refine bf (i:=17) (by kernel_rfl) rfl (fun K hK=>?_)
      go_simp
      refine hK _ _ (⟨q6 _,q8 _,q3 _⟩) ?_;clear hK K
      try simp only[Act.put,List.setIfInBounds_toArray,List.set_cons_zero,List.set_cons_succ]
      refine bf (i:=18) (by kernel_rfl) rfl (fun K hK=>?_);refine bN (by rfl) _ _ 27 3 (.int .i64 0) 8 (by rfl) Tryz.underlying27 Tryz.bW rfl (Dc.out.drew.alloc _) (by rfl) w4.heap.size (.int .i64 ref) (by rfl) (fJ w4.drew _ _) rfl (by omega) (by simp only[maxLen];omega) ?_;intro b' c' w5 h6 _;obtain⟨g1,⟨g2,g3⟩,g4,g5,g6,g7⟩:=UK.out _ _ _ h6;have H7:=zH g7;clear g5 g6 g7 h6;have HS2:(fun V:World=>V.cell? ⟨p,6,none⟩=some (.slice (some ⟨bw,0,none⟩) nw M.aj.c)∧V.cell? ⟨b,1,none⟩=some (.int .u32 y)∧V.cell? ⟨bw,y,none⟩=some (.slice (mU.a.map fun b=>⟨b,0,none⟩) nr mU.c)) _:=⟨g1,g4,g2⟩;refine hK _ _ HS2 ?_;clear hK K
      try simp only[Act.put,List.setIfInBounds_toArray,List.set_cons_zero,List.set_cons_succ]
      refine ay (i:=19) (v:=?v18) rfl (by kernel_rfl) (by kernel_rfl) (by kernel_rfl) (by kernel_rfl) (fun _ _ _ h=>h) rfl ?QE HS2 ?_
      case QE =>
       intro V aF
       try dsimp only at aF
       go_simp
       try with_reducible rfl
      try simp only[Act.put,List.setIfInBounds_toArray,List.set_cons_zero,List.set_cons_succ]
      refine iy (by kernel_rfl) rfl (by kernel_rfl) (fun K hK=>?_)
      go_simp
      refine hK _ _ ?_;clear hK K
      go_wp2
      go_ret2
      refine⟨by rw[HR.out];rfl,_,H7.out,?_,rfl,rfl,fun j hj=>?_⟩
      ·rw[HR.out];unfold SM.watch;rw[←pR HI.out c4];show ({ (MM.sv (M.bq ref r d c4)) with aj:=(M.aj.xs.set y ⟨some b',c',mU.xs++[ref]⟩).map (·.xs) }:SM)={ (MM.sv (M.bq ref r d c4)) with aj:=(M.aj.xs.map (·.xs)).set y (gN (M.aj.xs.map (·.xs)) y++[ref]) };have hgn:gN (M.aj.xs.map (·.xs)) y=mU.xs:=by simp[gN,List.getD_eq_getElem?_getD,HRW.out]
       rw[List.map_set,hgn]
      ·show (M.aj.xs.set y _)[j]?=_;rw[List.getElem?_set_ne (fun e=>by rw[←e,HSY.out] at hj;omega)]
     ·have e6:decide (0≤sy)=false:=by simpa using hs
      have adV:=zH (show M.sv.iK (ln-(i+1)) cc (i+1)=M.sv.iK (ln-2) cc 2 by have:=WR.out;rwa [if_neg hs] at this)
      go_wp2
      go_roundg (ln-(i+1))
      case measure=>have:=hg.out;omega
      case rel=>exact⟨i+1,by go_num,by omega,by omega,rfl,H4.out,adV.out⟩
    ·obtain rfl:i=ln:=by omega
     have HNO:=zH (show M.sv.iK (i-2) cc 2=none by rw[←HFW.out,Nat.sub_self];rfl);obtain⟨e4,f4⟩:=H3.out.iE (dP HI.out cc) HB.out (j:=0) (x:=y0) (by rw[aM cc 0 (by rw[jW.out];omega),UJ.out]);have HIS:=zH (mQ y0 H3.out (by have:=DC.out _ (aU cc 0 (by rw[jW.out];omega));rw[UJ.out] at this;exact this) HK.out.small (HK.out.val _));rw[show (MM.sv (M.bq ref r d cc)).bF y0=s0 from bB.out] at HIS;clear HFW
     go_wp2_with fail
     refine HIS.out.mono ?_
     rintro e w3 ⟨rfl,hd⟩
     have H4:=zH (H3.out.drawn hd);clear hd HIS e4 f4
     by_cases hs:s0<0
     ·have e6:decide (s0<0)=true:=by simpa using hs
      have HR:=zH (show M.sv.look ref x0=(M.sv.dB ref cc,false,true) by rw[HG0.out,HNO.out];simp only;rw[if_pos hs])
      go_wp2
      go_ret2
      exact⟨by rw[HR.out];rfl,_,H4.out,by rw[HR.out];exact pR HI.out cc,rfl,rfl,fun _ _=>rfl⟩
     ·have e6:decide (s0<0)=false:=by simpa using hs
      have HR:=zH (show M.sv.look ref x0=((M.sv.dB ref cc).bX y0 ref,false,false) by rw[HG0.out,HNO.out];simp only;rw[if_neg hs]);obtain⟨e5,f5⟩:=H4.out.iE (dP HI.out cc) HB.out (j:=0) (x:=y0) (by rw[aM cc 0 (by rw[jW.out];omega),UJ.out]);have mV:=zH (vP y0 ref H4.out (by have:=DC.out _ (aU cc 0 (by rw[jW.out];omega));rw[UJ.out] at this;exact this) HK.out.sz.level HK.out.sz.reason HK.out.small (by have:M.trail.xs.length≤900000:=HK.out.trail;show M.trail.xs.length≤_;omega))
      go_wp2_with fail
      refine mV.out.mono ?_
      rintro e w5 ⟨rfl,a1,a2,a3,a4,h6,h7⟩
      have H6:=zH h6;have H7:=zH h7;clear h6 h7 mV
      go_wp2
      go_ret2
      exact⟨by rw[HR.out];rfl,_,H6.out,by rw[HR.out,←pR HI.out cc];exact H7.out,rfl,rfl,fun _ _=>rfl⟩
 ·have e3:((x0:Int)==(l:Int))=false:=by simp;omega
  obtain⟨cc,hcc⟩:∃ cc,r.xs=cc:=⟨_,rfl⟩;have HL2:=zH (show M.sv.look ref l=mJ M.sv ref cc by rw[acL.out,if_neg (by rw[HX0.out];exact hc0),hcc]);have jW:=zH (show cc.length=ln by rw[←hcc,fP.out]);have DC:=zH (show ∀ x∈cc,x/2<M.value.xs.length by rw[←hcc];exact Ig.out);have H1:=zH (show At B w0 w p (M.bq ref r d cc) F by rw[←hcc,UF HI.out];exact H.out);clear hcc
  go_enter Tryz.func87,Tryz.ntmps87
  go_upto_if 22 with fail
  clear e0 e1 f0 f1 c5 o1 o2;obtain⟨w1,hw1⟩:∃ w1,w=w1:=⟨_,rfl⟩;subst hw1;obtain⟨e4,f4⟩:=H1.out.iE (dP HI.out cc) HB.out (j:=0) (x:=gn cc 0) (aM cc 0 (by rw[jW.out];omega));have HIS:=zH (mQ (gn cc 0) H1.out (DC.out _ (aU _ _ (by rw[jW.out];omega))) HK.out.small (HK.out.val _));obtain⟨y0,hy0⟩:∃ y,gn cc 0=y:=⟨_,rfl⟩;rw[hy0] at e4 HIS;obtain⟨s0,hs0⟩:∃ s,M.sv.bF y0=s:=⟨_,rfl⟩;rw[show (MM.sv (M.bq ref r d cc)).bF y0=s0 from hs0] at HIS;have UJ:=zH hy0;have bB:=zH hs0;clear hy0 hs0
  go_wp2_with fail
  refine HIS.out.mono ?_
  rintro e w2 ⟨rfl,hd⟩
  have H2:=zH (H1.out.drawn hd);clear hd HIS e4 f4
  by_cases hp:0<s0
  ·have e5:decide (0<s0)=true:=by simpa using hp
   have HR:=zH (show M.sv.look ref l=(M.sv.dB ref cc,false,false) by rw[HL2.out];unfold mJ;rw[UJ.out,bB.out,if_pos hp])
   go_wp2
   go_ret2
   exact⟨by rw[HR.out];rfl,_,H2.out,by rw[HR.out];exact pR HI.out cc,rfl,rfl,fun _ _=>rfl⟩
  ·have e5:decide (0<s0)=false:=by simpa using hp
   have HG0:=zH (show M.sv.look ref l=(match M.sv.iK (ln-2) cc 2 with
    | some i=>((M.sv.dB ref (SM.dG cc 1 i)).watch (gn cc i) ref,true,false)
    | none=>if s0<0 then (M.sv.dB ref cc,false,true) else ((M.sv.dB ref cc).bX y0 ref,false,false)) by
    rw[HL2.out];unfold mJ;rw[UJ.out,bB.out,if_neg hp,jW.out])
   go_wp2
   go_loopg [9] (ln-2) (fun g s9 wr=>∃ i:Nat,s9=.int .i64 i∧2≤i∧i≤ln∧Hid (g=ln-i)∧Hid (At B w0 wr p (M.bq ref r d cc) F)∧Hid (M.sv.iK (ln-i) cc i=M.sv.iK (ln-2) cc 2))
   case atStart=>exact⟨2,rfl,Nat.le_refl _,hl2,rfl,H2.out,rfl⟩
   case round =>
    obtain⟨i,rfl,hi2,hin,hg,H3,HFW⟩:=hrel
    by_cases hil:i<ln
    ·obtain⟨e4,f4⟩:=H3.out.iE (dP HI.out cc) HB.out (j:=i) (x:=gn cc i) (aM cc i (by rw[jW.out];exact hil));have hyv:=DC.out _ (aU cc i (by rw[jW.out];exact hil));have HIS:=zH (mQ (gn cc i) H3.out hyv HK.out.small (HK.out.val _));obtain⟨y,hy⟩:∃ y,gn cc i=y:=⟨_,rfl⟩;rw[hy] at e4 HIS hyv;obtain⟨sy,hsy⟩:∃ s,M.sv.bF y=s:=⟨_,rfl⟩;rw[show (MM.sv (M.bq ref r d cc)).bF y=sy from hsy] at HIS;have HY:=zH hy;have HSY:=zH hsy;have i0:(0:Int)≤(i:Int):=by omega
     have i1:(i:Int)<(ln:Int):=by omega
     have hfw:=HFW.out;rw[show ln-i=(ln-(i+1))+1 by omega,SM.iK,hy,hsy] at hfw;have WR:=zH hfw;clear hy hsy hfw
     go_wp2_with fail
     refine HIS.out.mono ?_
     rintro e w3 ⟨rfl,hd⟩
     have H4:=zH (H3.out.drawn hd);clear hd HIS e4 f4
     by_cases hs:0≤sy
     ·have e6:decide (0≤sy)=true:=by simpa using hs
      obtain⟨e5,f5⟩:=H4.out.iE (dP HI.out cc) HB.out (j:=i) (x:=y) (by rw[aM cc i (by rw[jW.out];exact hil),HY.out]);obtain⟨e7,f7⟩:=H4.out.iE (dP HI.out cc) HB.out (j:=1) (x:=gn cc 1) (aM cc 1 (by rw[jW.out];omega));obtain⟨y1,hy1⟩:∃ y,gn cc 1=y:=⟨_,rfl⟩;rw[hy1] at e7;have hne:¬ i=1:=by omega
      have hne2:¬ 1=i:=by omega
      obtain⟨c4,hc4⟩:∃ c,SM.dG cc 1 i=c:=⟨_,rfl⟩
      have h5:At B w0 ((w3.setCell ⟨b,1,none⟩ (.int .u32 y)).setCell ⟨b,i,none⟩ (.int .u32 y1)).drew p (M.bq ref r d c4) F:=by
       have:=(H4.out.Fx (dP HI.out cc) HB.out (i:=1) (j:=i) (by show 1<cc.length;rw[jW.out];omega) (by show i<cc.length;rw[jW.out];exact hil)).drewN 1;rw[show (Fl.mk r.a r.c cc).xs=cc from rfl,HY.out,hy1,Bq,hc4] at this;exact this
      have hg1:gn c4 1=y:=by rw[←hc4];unfold SM.dG;rw[fB (by omega),iF (by rw[jW.out];omega),HY.out]
      have WS:c4.length=ln:=by rw[←hc4,lW,jW.out]
      have HR:=zH (show M.sv.look ref l=((M.sv.dB ref c4).watch y ref,true,false) by
       rw[HG0.out,←WR.out,if_pos hs];simp only
       rw[hc4,HY.out])
      have H5:=zH h5;have Jb:=zH hg1;have HC4:=zH WS;clear hy1 hc4 h5 hg1 WS
      go_wp2
      go_region
      have h5:=H5.out;clear e5 f5 e7 f7 H5 H4;revert h5;generalize ((w3.setCell ⟨b,1,none⟩ (.int .u32 y)).setCell ⟨b,i,none⟩ (.int .u32 y1)).drew=w4;intro h5
      have hwl:y<M.aj.xs.length:=by
       have h8:(M.aj.xs.map (·.xs)).length=2*M.value.xs.length:=HK.out.sz.aj;rw[List.length_map] at h8;omega
      obtain⟨mU,hrw⟩:∃ x,M.aj.xs[y]?=some x:=⟨M.aj.xs[y],by simp[hwl]⟩;obtain⟨bw,hbw⟩:=h5.qL (by show 0<M.aj.xs.length;omega);obtain⟨o3,o4⟩:=h5.kX hbw hrw;obtain⟨e8,f8⟩:=h5.iE (dP HI.out c4) HB.out (j:=1) (x:=y) (by rw[aM c4 1 (by rw[HC4.out];omega),Jb.out]);have c6:=h5.iD;obtain⟨nw,hnw⟩:∃ nw,M.aj.xs.length=nw:=⟨_,rfl⟩;obtain⟨nr,hnr⟩:∃ nr,mU.xs.length=nr:=⟨_,rfl⟩
      have akn:nr≤1000000:=by
       rw[←hnr];exact HK.out.rows _ (List.mem_map.2 ⟨mU,List.mem_of_getElem? hrw,rfl⟩)
      rw[hbw,show (M.bq ref r d c4).aj.xs.length=nw from hnw] at c6;rw[hnr] at o3;simp only[Option.map_some] at c6;have hrow:=h5.iM hrw;unfold Fl.hp at hrow;rw[hnr] at hrow;have Dc:=zH hrow;have HRW:=zH hrw;have HBW:=zH hbw;have HNR:=zH hnr;have AZ:=zH hnw;have akp:=zH h5.bA;have y0':(0:Int)≤(y:Int):=by omega
      have y1':(y:Int)<(nw:Int):=by omega
      have q6:∀ o,(w4.alloc o).cell? ⟨p,6,none⟩=some (.slice (some ⟨bw,0,none⟩) nw M.aj.c):=fun o=>(World.cell?_alloc_some _ _ _ (by rw[c6];rfl)).trans c6;have q8:∀ o,(w4.alloc o).cell? ⟨b,1,none⟩=some (.int .u32 y):=fun o=>(World.cell?_alloc_some _ _ _ (by rw[e8];rfl)).trans e8;have q3:∀ o,(w4.alloc o).cell? ⟨bw,y,none⟩=some (.slice (mU.a.map fun b=>⟨b,0,none⟩) nr mU.c):=fun o=>(World.cell?_alloc_some _ _ _ (by rw[o3];rfl)).trans o3
      have UK:=zH (show ∀ (b' c':Nat) (w5:World),St B w0 w5 (star (sl (some b') (nr+1) c' 3 1 (mU.xs.map vN++[vN ref])) (dI p (M.bq ref r d c4) y F)) →
        w5.cell? ⟨p,6,none⟩=some (.slice (some ⟨bw,0,none⟩) nw M.aj.c)∧(w5.cell? ⟨bw,y,none⟩=some (.slice (mU.a.map fun b=>⟨b,0,none⟩) nr mU.c)∧w5.frozen? ⟨bw,y,none⟩=false)∧w5.cell? ⟨b,1,none⟩=some (.int .u32 y) ∧
        (w5.setCell ⟨bw,y,none⟩ (.slice (some ⟨b',0,none⟩) (nr+1) c')).cell? ⟨p,6,none⟩=some (.slice (some ⟨bw,0,none⟩) nw M.aj.c)∧(w5.setCell ⟨bw,y,none⟩ (.slice (some ⟨b',0,none⟩) (nr+1) c')).cell? ⟨b,1,none⟩=some (.int .u32 y) ∧
        At B w0 (w5.setCell ⟨bw,y,none⟩ (.slice (some ⟨b',0,none⟩) (nr+1) c')) p ((M.bq ref r d c4).aY ⟨M.aj.a,M.aj.c,M.aj.xs.set y ⟨some b',c',mU.xs++[ref]⟩⟩) F from fun b' c' w5 h6=>by
       obtain⟨g1,g2,g3⟩:=At.qp (M:=M.bq ref r d c4) (x:=ref) h5.bA hrw hbw hnr h6;have g4:=At.pU (M:=M.bq ref r d c4) (rc:=⟨r.a,r.c,c4⟩) hrw h6 (dP HI.out c4) HB.out (j:=1) (x:=y) (by rw[aM c4 1 (by rw[HC4.out];omega),Jb.out]);have g5:=g3.iD;have g6:=(g3.iE (dP HI.out c4) HB.out (j:=1) (x:=y) (by rw[aM c4 1 (by rw[HC4.out];omega),Jb.out])).1;rw[show (M.bq ref r d c4).aj.xs.length=nw from hnw] at g1;rw[show ((M.bq ref r d c4).aY ⟨M.aj.a,M.aj.c,M.aj.xs.set y ⟨some b',c',mU.xs++[ref]⟩⟩).aj.a=some bw from hbw,show ((M.bq ref r d c4).aY ⟨M.aj.a,M.aj.c,M.aj.xs.set y ⟨some b',c',mU.xs++[ref]⟩⟩).aj.xs.length=nw by show (M.aj.xs.set y _).length=nw;rw[List.length_set];exact hnw] at g5
       exact⟨g1,g2,g4,g5,g6,g3⟩)
      clear hrow hrw hbw hnr hnw h5
      go_wp2
      refine dn 20 (fun V:World=>V.cell? ⟨p,6,none⟩=some (.slice (some ⟨bw,0,none⟩) nw M.aj.c)∧V.cell? ⟨b,1,none⟩=some (.int .u32 y)∧V.cell? ⟨bw,y,none⟩=some (.slice (mU.a.map fun b=>⟨b,0,none⟩) nr mU.c)) (by kernel_rfl) ?_;have bB:(fun V:World=>V.cell? ⟨p,6,none⟩=some (.slice (some ⟨bw,0,none⟩) nw M.aj.c)∧V.cell? ⟨b,1,none⟩=some (.int .u32 y)∧V.cell? ⟨bw,y,none⟩=some (.slice (mU.a.map fun b=>⟨b,0,none⟩) nr mU.c)) w4.drew:=⟨c6,e8,o3⟩;refine ay (i:=0) (v:=?v19) rfl (by kernel_rfl) (by kernel_rfl) (by kernel_rfl) (by kernel_rfl) (fun _ _ _ h=>h) rfl ?QF bB ?_
      case QF =>
       intro V aF
       try dsimp only at aF
       go_simp
       try with_reducible rfl
      try simp only[Act.put,List.setIfInBounds_toArray,List.set_cons_zero,List.set_cons_succ]
      refine ay (i:=1) (v:=?v20) rfl (by kernel_rfl) (by kernel_rfl) (by kernel_rfl) (by kernel_rfl) (fun _ _ _ h=>h) rfl ?QG bB ?_
      case QG =>
       intro V aF
       try dsimp only at aF
       go_simp
       try with_reducible rfl
      try simp only[Act.put,List.setIfInBounds_toArray,List.set_cons_zero,List.set_cons_succ]
      refine ay (i:=2) (v:=?v21) rfl (by kernel_rfl) (by kernel_rfl) (by kernel_rfl) (by kernel_rfl) (fun _ _ _ h=>h) rfl ?QH bB ?_
      case QH =>
       intro V aF
       try dsimp only at aF
       go_simp
       try with_reducible rfl
      try simp only[Act.put,List.setIfInBounds_toArray,List.set_cons_zero,List.set_cons_succ]
      refine ay (i:=3) (v:=?v22) rfl (by kernel_rfl) (by kernel_rfl) (by kernel_rfl) (by kernel_rfl) (fun _ _ _ h=>h) rfl ?QI bB ?_
      case QI =>
       intro V aF
       try dsimp only at aF
       go_simp
       try with_reducible rfl
      try simp only[Act.put,List.setIfInBounds_toArray,List.set_cons_zero,List.set_cons_succ]
      refine ay (i:=4) (v:=?v23) rfl (by kernel_rfl) (by kernel_rfl) (by kernel_rfl) (by kernel_rfl) (fun _ _ _ h=>h) rfl ?adW bB ?_
      case adW =>
       intro V aF
       try dsimp only at aF
       go_simp
       try with_reducible rfl
      try simp only[Act.put,List.setIfInBounds_toArray,List.set_cons_zero,List.set_cons_succ]
      refine ay (i:=5) (v:=?v24) rfl (by kernel_rfl) (by kernel_rfl) (by kernel_rfl) (by kernel_rfl) (fun _ _ _ h=>h) rfl ?hy24 bB ?_
      case hy24 =>
       intro V aF
       try dsimp only at aF
       go_simp
       try with_reducible rfl
      try simp only[Act.put,List.setIfInBounds_toArray,List.set_cons_zero,List.set_cons_succ]
      refine ay (i:=6) (v:=?v25) rfl (by kernel_rfl) (by kernel_rfl) (by kernel_rfl) (by kernel_rfl) (fun _ _ _ h=>h) rfl ?hy25 bB ?_
      case hy25 =>
       intro V aF
       try dsimp only at aF
       go_simp
       try with_reducible rfl
      try simp only[Act.put,List.setIfInBounds_toArray,List.set_cons_zero,List.set_cons_succ]
      refine ay (i:=7) (v:=?v26) rfl (by kernel_rfl) (by kernel_rfl) (by kernel_rfl) (by kernel_rfl) (fun _ _ _ h=>h) rfl ?adX bB ?_
      case adX =>
       intro V aF
       try dsimp only at aF
       go_simp
       try with_reducible rfl
      try simp only[Act.put,List.setIfInBounds_toArray,List.set_cons_zero,List.set_cons_succ]
      refine ay (i:=8) (v:=?v27) rfl (by kernel_rfl) (by kernel_rfl) (by kernel_rfl) (by kernel_rfl) (fun _ _ _ h=>h) rfl ?hy27 bB ?_
      case hy27 =>
       intro V aF
       try dsimp only at aF
       go_simp
       try with_reducible rfl
      try simp only[Act.put,List.setIfInBounds_toArray,List.set_cons_zero,List.set_cons_succ]
      refine ay (i:=9) (v:=?v28) rfl (by kernel_rfl) (by kernel_rfl) (by kernel_rfl) (by kernel_rfl) (fun _ _ _ h=>h) rfl ?hy28 bB ?_
      case hy28 =>
       intro V aF
       try dsimp only at aF
       go_simp
       try with_reducible rfl
      try simp only[Act.put,List.setIfInBounds_toArray,List.set_cons_zero,List.set_cons_succ]
      refine ay (i:=10) (v:=?v29) rfl (by kernel_rfl) (by kernel_rfl) (by kernel_rfl) (by kernel_rfl) (fun _ _ _ h=>h) rfl ?hy29 bB ?_
      case hy29 =>
       intro V aF
       try dsimp only at aF
       go_simp
       try with_reducible rfl
      try simp only[Act.put,List.setIfInBounds_toArray,List.set_cons_zero,List.set_cons_succ]
      refine ay (i:=11) (v:=?v30) rfl (by kernel_rfl) (by kernel_rfl) (by kernel_rfl) (by kernel_rfl) (fun _ _ _ h=>h) rfl ?adY bB ?_
      case adY =>
       intro V aF
       try dsimp only at aF
       go_simp
       try with_reducible rfl
      try simp only[Act.put,List.setIfInBounds_toArray,List.set_cons_zero,List.set_cons_succ]
      refine ay (i:=12) (v:=?v31) rfl (by kernel_rfl) (by kernel_rfl) (by kernel_rfl) (by kernel_rfl) (fun _ _ _ h=>h) rfl ?hy31 bB ?_
      case hy31 =>
       intro V aF
       try dsimp only at aF
       go_simp
       try with_reducible rfl
      try simp only[Act.put,List.setIfInBounds_toArray,List.set_cons_zero,List.set_cons_succ]
      refine ay (i:=13) (v:=?v32) rfl (by kernel_rfl) (by kernel_rfl) (by kernel_rfl) (by kernel_rfl) (fun _ _ _ h=>h) rfl ?hy32 bB ?_
      case hy32 =>
       intro V aF
       try dsimp only at aF
       go_simp
       try with_reducible rfl
      try simp only[Act.put,List.setIfInBounds_toArray,List.set_cons_zero,List.set_cons_succ]
      refine ay (i:=14) (v:=?v33) rfl (by kernel_rfl) (by kernel_rfl) (by kernel_rfl) (by kernel_rfl) (fun _ _ _ h=>h) rfl ?adZ bB ?_
      case adZ =>
       intro V aF
       try dsimp only at aF
       go_simp
       try with_reducible rfl
      try simp only[Act.put,List.setIfInBounds_toArray,List.set_cons_zero,List.set_cons_succ]
      refine ay (i:=15) (v:=?v34) rfl (by kernel_rfl) (by kernel_rfl) (by kernel_rfl) (by kernel_rfl) (fun _ _ _ h=>h) rfl ?hy34 bB ?_
      case hy34 =>
       intro V aF
       try dsimp only at aF
       go_simp
       try with_reducible rfl
      try simp only[Act.put,List.setIfInBounds_toArray,List.set_cons_zero,List.set_cons_succ]
      refine ay (i:=16) (v:=?v35) rfl (by kernel_rfl) (by kernel_rfl) (by kernel_rfl) (by kernel_rfl) (fun _ _ _ h=>h) rfl ?ad1 bB ?_
      case ad1 =>
       intro V aF
       try dsimp only at aF
       go_simp
       try with_reducible rfl
      try simp only[Act.put,List.setIfInBounds_toArray,List.set_cons_zero,List.set_cons_succ]
      refine bf (i:=17) (by kernel_rfl) rfl (fun K hK=>?_)
      go_simp
      refine hK _ _ (⟨q6 _,q8 _,q3 _⟩) ?_;clear hK K
      try simp only[Act.put,List.setIfInBounds_toArray,List.set_cons_zero,List.set_cons_succ]
      refine bf (i:=18) (by kernel_rfl) rfl (fun K hK=>?_);refine bN (by rfl) _ _ 27 3 (.int .i64 0) 8 (by rfl) Tryz.underlying27 Tryz.bW rfl (Dc.out.drew.alloc _) (by rfl) w4.heap.size (.int .i64 ref) (by rfl) (fJ w4.drew _ _) rfl (by omega) (by simp only[maxLen];omega) ?_;intro b' c' w5 h6 _;obtain⟨g1,⟨g2,g3⟩,g4,g5,g6,g7⟩:=UK.out _ _ _ h6;have H7:=zH g7;clear g5 g6 g7 h6;have HS2:(fun V:World=>V.cell? ⟨p,6,none⟩=some (.slice (some ⟨bw,0,none⟩) nw M.aj.c)∧V.cell? ⟨b,1,none⟩=some (.int .u32 y)∧V.cell? ⟨bw,y,none⟩=some (.slice (mU.a.map fun b=>⟨b,0,none⟩) nr mU.c)) _:=⟨g1,g4,g2⟩;refine hK _ _ HS2 ?_;clear hK K
      try simp only[Act.put,List.setIfInBounds_toArray,List.set_cons_zero,List.set_cons_succ]
      refine ay (i:=19) (v:=?v36) rfl (by kernel_rfl) (by kernel_rfl) (by kernel_rfl) (by kernel_rfl) (fun _ _ _ h=>h) rfl ?ad2 HS2 ?_
      case ad2 =>
       intro V aF
       try dsimp only at aF
       go_simp
       try with_reducible rfl
      try simp only[Act.put,List.setIfInBounds_toArray,List.set_cons_zero,List.set_cons_succ]
      refine iy (by kernel_rfl) rfl (by kernel_rfl) (fun K hK=>?_)
      go_simp
      refine hK _ _ ?_;clear hK K
      go_wp2
      go_ret2
      refine⟨by rw[HR.out];rfl,_,H7.out,?_,rfl,rfl,fun j hj=>?_⟩
      ·rw[HR.out];unfold SM.watch;rw[←pR HI.out c4];show ({ (MM.sv (M.bq ref r d c4)) with aj:=(M.aj.xs.set y ⟨some b',c',mU.xs++[ref]⟩).map (·.xs) }:SM)={ (MM.sv (M.bq ref r d c4)) with aj:=(M.aj.xs.map (·.xs)).set y (gN (M.aj.xs.map (·.xs)) y++[ref]) };have hgn:gN (M.aj.xs.map (·.xs)) y=mU.xs:=by simp[gN,List.getD_eq_getElem?_getD,HRW.out]
       rw[List.map_set,hgn]
      ·show (M.aj.xs.set y _)[j]?=_;rw[List.getElem?_set_ne (fun e=>by rw[←e,HSY.out] at hj;omega)]
     ·have e6:decide (0≤sy)=false:=by simpa using hs
      have adV:=zH (show M.sv.iK (ln-(i+1)) cc (i+1)=M.sv.iK (ln-2) cc 2 by have:=WR.out;rwa [if_neg hs] at this)
      go_wp2
      go_roundg (ln-(i+1))
      case measure=>have:=hg.out;omega
      case rel=>exact⟨i+1,by go_num,by omega,by omega,rfl,H4.out,adV.out⟩
    ·obtain rfl:i=ln:=by omega
     have HNO:=zH (show M.sv.iK (i-2) cc 2=none by rw[←HFW.out,Nat.sub_self];rfl);obtain⟨e4,f4⟩:=H3.out.iE (dP HI.out cc) HB.out (j:=0) (x:=y0) (by rw[aM cc 0 (by rw[jW.out];omega),UJ.out]);have HIS:=zH (mQ y0 H3.out (by have:=DC.out _ (aU cc 0 (by rw[jW.out];omega));rw[UJ.out] at this;exact this) HK.out.small (HK.out.val _));rw[show (MM.sv (M.bq ref r d cc)).bF y0=s0 from bB.out] at HIS;clear HFW
     go_wp2_with fail
     refine HIS.out.mono ?_
     rintro e w3 ⟨rfl,hd⟩
     have H4:=zH (H3.out.drawn hd);clear hd HIS e4 f4
     by_cases hs:s0<0
     ·have e6:decide (s0<0)=true:=by simpa using hs
      have HR:=zH (show M.sv.look ref l=(M.sv.dB ref cc,false,true) by rw[HG0.out,HNO.out];simp only;rw[if_pos hs])
      go_wp2
      go_ret2
      exact⟨by rw[HR.out];rfl,_,H4.out,by rw[HR.out];exact pR HI.out cc,rfl,rfl,fun _ _=>rfl⟩
     ·have e6:decide (s0<0)=false:=by simpa using hs
      have HR:=zH (show M.sv.look ref l=((M.sv.dB ref cc).bX y0 ref,false,false) by rw[HG0.out,HNO.out];simp only;rw[if_neg hs]);obtain⟨e5,f5⟩:=H4.out.iE (dP HI.out cc) HB.out (j:=0) (x:=y0) (by rw[aM cc 0 (by rw[jW.out];omega),UJ.out]);have mV:=zH (vP y0 ref H4.out (by have:=DC.out _ (aU cc 0 (by rw[jW.out];omega));rw[UJ.out] at this;exact this) HK.out.sz.level HK.out.sz.reason HK.out.small (by have:M.trail.xs.length≤900000:=HK.out.trail;show M.trail.xs.length≤_;omega))
      go_wp2_with fail
      refine mV.out.mono ?_
      rintro e w5 ⟨rfl,a1,a2,a3,a4,h6,h7⟩
      have H6:=zH h6;have H7:=zH h7;clear h6 h7 mV
      go_wp2
      go_ret2
      exact⟨by rw[HR.out];rfl,_,H6.out,by rw[HR.out,←pR HI.out cc];exact H7.out,rfl,rfl,fun _ _=>rfl⟩
end
end Go.Proofs.YthbbmdnfkkffjaaGreat

/-
  Parts of the proof, joined by program: Lk.
-/
import Derived.Test.YthbbmdnfkkffjaaGreatZ04
import Derived.Test.YthbbmdnfkkffjaaGreatZ09
import Derived.Test.YthbbmdnfkkffjaaGreatZ11
import Derived.Test.YthbbmdnfkkffjaaGreatZ06
import Derived.Deep.RegionHeld3
import Derived.Deep.RegionLaw
namespace Go.Proofs.YthbbmdnfkkffjaaGreat
open Go.RowKit Go.Proofs.PlaitSep Go.Proofs.PlaitPure Go.Proofs.PlaitSat
abbrev MM.u_lits (M:MM) (ref:Nat) (r:Fl Nat) (d:Int) (c:List Nat):MM:=M.u_cls ⟨M.cls.a,M.cls.c,M.cls.xs.set ref (⟨r.a,r.c,c⟩,d)⟩
theorem cl_of {M:MM} {ref:Nat} {r:Fl Nat} {d:Int} (hi:M.cls.xs[ref]?=some (r,d)):M.sv.cl ref=r.xs∧M.sv.id ref=d:=by
 unfold SM.cl SM.id
 have:M.sv.cls[ref]?=some (r.xs,d):=by show (M.cls.xs.map fun x=>(x.1.xs,x.2))[ref]?=_;rw[List.getElem?_map,hi];rfl
 simp[List.getD_eq_getElem?_getD,this]
theorem sv_lits {M:MM} {ref:Nat} {r:Fl Nat} {d:Int} (hi:M.cls.xs[ref]?=some (r,d)) (c:List Nat):MM.sv (M.u_lits ref r d c)=M.sv.setCl ref c:=by
 unfold SM.setCl
 rw[(cl_of hi).2]
 show ({ M.sv with cls:=(M.cls.xs.set ref (⟨r.a,r.c,c⟩,d)).map fun x=>(x.1.xs,x.2) }:SM)={ M.sv with cls:=(M.cls.xs.map fun x=>(x.1.xs,x.2)).set ref (c,d) }
 rw[List.map_set]
theorem lits_get {M:MM} {ref:Nat} {r:Fl Nat} {d:Int} (hi:M.cls.xs[ref]?=some (r,d)) (c:List Nat):(M.u_lits ref r d c).cls.xs[ref]?=some (⟨r.a,r.c,c⟩,d):=by
 show (M.cls.xs.set ref (⟨r.a,r.c,c⟩,d))[ref]?=_
 rw[List.getElem?_set_self (list_len_lt hi)]
theorem lits_lits {M:MM} {ref:Nat} {r:Fl Nat} {d:Int} (c c':List Nat):(M.u_lits ref r d c).u_lits ref ⟨r.a,r.c,c⟩ d c'=M.u_lits ref r d c':=by
 simp[MM.u_lits,MM.u_cls]
theorem lits_self {M:MM} {ref:Nat} {r:Fl Nat} {d:Int} (hi:M.cls.xs[ref]?=some (r,d)):M.u_lits ref r d r.xs=M:=by
 have:M.cls.xs.set ref (⟨r.a,r.c,r.xs⟩,d)=M.cls.xs:=by
  apply List.ext_getElem?
  intro m
  by_cases e:m=ref
  ·subst e;rw[hi,List.getElem?_set_self (list_len_lt hi)]
  ·rw[List.getElem?_set_ne (fun h=>e h.symm)]
 simp[MM.u_lits,MM.u_cls,this]
structure LkOk (S:SM):Prop where
 small:S.value.length≤100000
 sz:Sz S
 vals:∀ x∈S.value,Val3 x
 trail:S.trail.length≤900000
 rows:∀ r∈S.watches,r.length≤1000000
theorem LkOk.val {S:SM} (h:LkOk S) (k:Nat):Val3 (gi S.value k):=by
 by_cases hk:k<S.value.length
 ·rw[gi_eq _ _ hk];exact h.vals _ (List.getElem_mem hk)
 ·rw[show gi S.value k=0 by simp[gi,List.getD_eq_getElem?_getD,List.getElem?_eq_none (Nat.le_of_not_lt hk)]];exact .inr (.inr rfl)
def SLookPost (B:Nat) (w0:World) (p:Nat) (M:MM) (F:HP) (R:SM×Bool×Bool) (e:Ending) (w':World):Prop :=
 e=.returned (.tuple #[.bool R.2.1,.bool R.2.2])∧∃ M',At B w0 w' p M' F∧M'.sv=R.1∧M'.watches.a=M.watches.a∧M'.watches.c=M.watches.c∧∀ j,M.sv.isL j<0→M'.watches.xs[j]?=M.watches.xs[j]?
def lookC (S:SM) (ref:Nat) (c:List Nat):SM×Bool×Bool :=
 if 0<S.isL (gn c 0) then (S.setCl ref c,false,false)
 else match S.findW (c.length-2) c 2 with
  | some i=>((S.setCl ref (SM.swapN c 1 i)).watch (gn c i) ref,true,false)
  | none=>if S.isL (gn c 0)<0 then (S.setCl ref c,false,true) else ((S.setCl ref c).setL (gn c 0) ref,false,false)
theorem look_lookC (S:SM) (ref l:Nat):S.look ref l=lookC S ref (if gn (S.cl ref) 0=l then SM.swapN (S.cl ref) 0 1 else S.cl ref):=rfl
theorem findW_at {S:SM} {c:List Nat}:∀ {f i k:Nat},SM.findW S f c i=some k→i≤k∧k<i+f∧0≤S.isL (gn c k)
 | 0,_,_,h=>by cases h
 | f+1,i,k,h=>by
  rw[SM.findW] at h
  split at h
  ·cases h;exact⟨Nat.le_refl _,by omega,by assumption⟩
  ·obtain⟨a,b,d⟩:=findW_at h
   exact⟨by omega,by omega,d⟩
theorem swap_len (c:List Nat) (i j:Nat):(SM.swapN c i j).length=c.length:=by simp[SM.swapN]
theorem swap_mem {c:List Nat} {i j x:Nat} (hi:i<c.length) (hj:j<c.length) (h:x∈SM.swapN c i j):x∈c:=by
 unfold SM.swapN at h
 rcases List.mem_or_eq_of_mem_set h with h1 | rfl
 ·rcases List.mem_or_eq_of_mem_set h1 with h2 | rfl
  ·exact h2
  ·exact gn_mem _ _ hj
 ·exact gn_mem _ _ hi
section
variable {B:Nat} {w0 w:World} {p:Nat} {M:MM} {F:HP}
theorem At.swap_cls (h:At B w0 w p M F) {ref i j b:Nat} {r:Fl Nat} {d:Int} (hi:M.cls.xs[ref]?=some (r,d)) (hb:r.a=some b) (h1:i<r.xs.length) (h2:j<r.xs.length) :
  At B w0 ((w.setCell ⟨b,i,none⟩ (.int .u32 (gn r.xs j))).setCell ⟨b,j,none⟩ (.int .u32 (gn r.xs i))) p (M.u_lits ref r d (SM.swapN r.xs i j)) F:=by
 have g1:=h.eset_cls hi hb h1 (gn r.xs j)
 have g2:=g1.eset_cls (lits_get hi _) (j:=j) hb (by show j<(r.xs.set i (gn r.xs j)).length;rw[List.length_set];exact h2) (gn r.xs i)
 have e:=lits_lits (M:=M) (ref:=ref) (r:=r) (d:=d) (r.xs.set i (gn r.xs j)) ((r.xs.set i (gn r.xs j)).set j (gn r.xs i))
 unfold SM.swapN
 rw[←e]
 exact g2
theorem At.unrow_e_cls {i ref j b:Nat} {r rc:Fl Nat} {d:Int} {Q:HP} {x:Nat} (hi:M.watches.xs[i]?=some r) (h:St B w0 w (star Q (hole_watches p M i F))) (hc:M.cls.xs[ref]?=some (rc,d)) (hb:rc.a=some b) (hj:rc.xs[j]?=some x):w.cell? ⟨b,j,none⟩=some (.int .u32 x):=by
 have h1:=At.unrow_watches hi h
 have h2:=h1.focusK (Ps:=(parts p M).set 20 _) (k:=18) (P:=stars (clsH M.cls.xs)) rfl
 rw[stars_focus (clsH_get hc)] at h2
 have h3:St B w0 w (star (sl (some b) rc.xs.length rc.c 98 1 (rc.xs.map vL)) (star (stars ((clsH M.cls.xs).eraseIdx ref)) (star (stars (((parts p M).set 20 (stars ((M.watches.rows 3 vN).set i Q))).eraseIdx 18)) F))):=h2.conseq (by unfold Fl.hp;rw[hb];ac_rfl)
 rw[h3.sl_cell j (by rw[List.length_map];exact list_len_lt hj),List.getElem?_map,hj]
 rfl
set_option maxRecDepth 100000 in
set_option maxHeartbeats 4000000 in
theorem slook_any (ref l:Nat) (h:At B w0 w p M F) (hk:LkOk M.sv) (hr:ref<M.cls.xs.length) (hn:M.cls.xs.length≤1000000) (hl2:2≤(M.sv.cl ref).length) (hls:(M.sv.cl ref).length≤1000000) (hlv:∀ x∈M.sv.cl ref,x/2<M.value.xs.length) (hl:l<1000000) :
  Calls Tryz.prog 87 #[.pointer (some ⟨p,0,none⟩),.int .i64 ref,.int .u32 l] w (SLookPost B w0 p M F (M.sv.look ref l)):=by
 obtain⟨⟨r,d⟩,hi⟩:∃ x,M.cls.xs[ref]?=some x:=⟨M.cls.xs[ref],by simp[hr]⟩
 have hcl:=(cl_of hi).1
 rw[hcl] at hl2 hls hlv
 obtain⟨bc,hbc⟩:=h.b_cls (by omega)
 obtain⟨o1,o2⟩:=h.o_cls hbc hi
 obtain⟨b,hb⟩:=(h.rb_cls hi).1 (by omega)
 have c5:=h.c_cls
 obtain⟨nc,hnc⟩:∃ nc,M.cls.xs.length=nc:=⟨_,rfl⟩
 obtain⟨ln,hln⟩:∃ ln,r.xs.length=ln:=⟨_,rfl⟩
 rw[hbc,hnc] at c5
 rw[hb,hln] at o1
 obtain⟨e0,f0⟩:=h.e_cls hi hb (gn_some r.xs 0 (by omega))
 obtain⟨e1,f1⟩:=h.e_cls hi hb (gn_some r.xs 1 (by omega))
 simp only[Option.map_some] at c5 o1
 have hlook:M.sv.look ref l=lookC M.sv ref (if gn r.xs 0=l then SM.swapN r.xs 0 1 else r.xs):=by rw[look_lookC,hcl]
 obtain⟨x0,hx0⟩:∃ x,gn r.xs 0=x:=⟨_,rfl⟩
 obtain⟨x1,hx1⟩:∃ x,gn r.xs 1=x:=⟨_,rfl⟩
 rw[hx0] at e0
 rw[hx1] at e1
 rw[hnc] at hr hn
 rw[hln] at hl2 hls
 have n1:¬ b=p:=(h.rn_cls hi hb).1
 have H:=Lib.hid h
 have HK:=Lib.hid hk
 have HI:=Lib.hid hi
 have HB:=Lib.hid hb
 have HLN:=Lib.hid hln
 have HLV:=Lib.hid hlv
 have HLOOK:=Lib.hid hlook
 have HX0:=Lib.hid hx0
 have HX1:=Lib.hid hx1
 have r0:(0:Int)≤(ref:Int):=by omega
 have r1:(ref:Int)<(nc:Int):=by omega
 have l0:(0:Int)<(ln:Int):=by omega
 have l1:(1:Int)<(ln:Int):=by omega
 clear h hk hi hcl hbc hb hnc hln hlook hx0 hx1 hlv
 by_cases hc0:x0=l
 ·subst hc0
  obtain⟨cc,hcc⟩:∃ cc,SM.swapN r.xs 0 1=cc:=⟨_,rfl⟩
  have HL2:=Lib.hid (show M.sv.look ref x0=lookC M.sv ref cc by rw[HLOOK.out,if_pos HX0.out,hcc])
  have HCL:=Lib.hid (show cc.length=ln by rw[←hcc,swap_len,HLN.out])
  have HCV:=Lib.hid (show ∀ x∈cc,x/2<M.value.xs.length from fun x hx=>by rw[←hcc] at hx;exact HLV.out x (swap_mem (by rw[HLN.out];omega) (by rw[HLN.out];omega) hx))
  have H1:=Lib.hid (show At B w0 ((w.setCell ⟨b,0,none⟩ (.int .u32 x1)).setCell ⟨b,1,none⟩ (.int .u32 x0)).drew p (M.u_lits ref r d cc) F by
   have:=(H.out.swap_cls HI.out HB.out (i:=0) (j:=1) (by rw[HLN.out];omega) (by rw[HLN.out];omega)).drewN 1
   rw[hcc,HX0.out,HX1.out] at this
   exact this)
  clear hcc
  go_enter Tryz.func87,Tryz.ntmps87
  go_wp2
  go_region
  have h1:=H1.out
  clear H1 e0 e1 f0 f1 c5 o1 o2
  revert h1
  generalize ((w.setCell ⟨b,0,none⟩ (.int .u32 x1)).setCell ⟨b,1,none⟩ (.int .u32 x0)).drew=w1
  intro h1
  have H1:=Lib.hid h1
  clear h1
  obtain⟨e4,f4⟩:=H1.out.e_cls (lits_get HI.out cc) HB.out (j:=0) (x:=gn cc 0) (gn_some cc 0 (by rw[HCL.out];omega))
  have HIS:=Lib.hid (sis_any (gn cc 0) H1.out (HCV.out _ (gn_mem _ _ (by rw[HCL.out];omega))) HK.out.small (HK.out.val _))
  obtain⟨y0,hy0⟩:∃ y,gn cc 0=y:=⟨_,rfl⟩
  rw[hy0] at e4 HIS
  obtain⟨s0,hs0⟩:∃ s,M.sv.isL y0=s:=⟨_,rfl⟩
  rw[show (MM.sv (M.u_lits ref r d cc)).isL y0=s0 from hs0] at HIS
  have HY0:=Lib.hid hy0
  have HS0:=Lib.hid hs0
  clear hy0 hs0
  go_wp2_with fail
  refine HIS.out.mono ?_
  rintro e w2 ⟨rfl,hd⟩
  have H2:=Lib.hid (H1.out.drawn hd)
  clear hd HIS e4 f4
  by_cases hp:0<s0
  ·have e5:decide (0<s0)=true:=by simpa using hp
   have HR:=Lib.hid (show M.sv.look ref x0=(M.sv.setCl ref cc,false,false) by rw[HL2.out];unfold lookC;rw[HY0.out,HS0.out,if_pos hp])
   go_wp2
   go_ret2
   exact⟨by rw[HR.out];rfl,_,H2.out,by rw[HR.out];exact sv_lits HI.out cc,rfl,rfl,fun _ _=>rfl⟩
  ·have e5:decide (0<s0)=false:=by simpa using hp
   have HG0:=Lib.hid (show M.sv.look ref x0=(match M.sv.findW (ln-2) cc 2 with
    | some i=>((M.sv.setCl ref (SM.swapN cc 1 i)).watch (gn cc i) ref,true,false)
    | none=>if s0<0 then (M.sv.setCl ref cc,false,true) else ((M.sv.setCl ref cc).setL y0 ref,false,false)) by
    rw[HL2.out];unfold lookC;rw[HY0.out,HS0.out,if_neg hp,HCL.out])
   go_wp2
   go_loopg [9] (ln-2) (fun g s9 wr=>∃ i:Nat,s9=.int .i64 i∧2≤i∧i≤ln∧Hid (g=ln-i)∧Hid (At B w0 wr p (M.u_lits ref r d cc) F)∧Hid (M.sv.findW (ln-i) cc i=M.sv.findW (ln-2) cc 2))
   case atStart=>exact⟨2,rfl,Nat.le_refl _,hl2,rfl,H2.out,rfl⟩
   case round =>
    obtain⟨i,rfl,hi2,hin,hg,H3,HFW⟩:=hrel
    by_cases hil:i<ln
    ·obtain⟨e4,f4⟩:=H3.out.e_cls (lits_get HI.out cc) HB.out (j:=i) (x:=gn cc i) (gn_some cc i (by rw[HCL.out];exact hil))
     have hyv:=HCV.out _ (gn_mem cc i (by rw[HCL.out];exact hil))
     have HIS:=Lib.hid (sis_any (gn cc i) H3.out hyv HK.out.small (HK.out.val _))
     obtain⟨y,hy⟩:∃ y,gn cc i=y:=⟨_,rfl⟩
     rw[hy] at e4 HIS hyv
     obtain⟨sy,hsy⟩:∃ s,M.sv.isL y=s:=⟨_,rfl⟩
     rw[show (MM.sv (M.u_lits ref r d cc)).isL y=sy from hsy] at HIS
     have HY:=Lib.hid hy
     have HSY:=Lib.hid hsy
     have i0:(0:Int)≤(i:Int):=by omega
     have i1:(i:Int)<(ln:Int):=by omega
     have hfw:=HFW.out
     rw[show ln-i=(ln-(i+1))+1 by omega,SM.findW,hy,hsy] at hfw
     have HFW2:=Lib.hid hfw
     clear hy hsy hfw
     go_wp2_with fail
     refine HIS.out.mono ?_
     rintro e w3 ⟨rfl,hd⟩
     have H4:=Lib.hid (H3.out.drawn hd)
     clear hd HIS e4 f4
     by_cases hs:0≤sy
     ·have e6:decide (0≤sy)=true:=by simpa using hs
      obtain⟨e5,f5⟩:=H4.out.e_cls (lits_get HI.out cc) HB.out (j:=i) (x:=y) (by rw[gn_some cc i (by rw[HCL.out];exact hil),HY.out])
      obtain⟨e7,f7⟩:=H4.out.e_cls (lits_get HI.out cc) HB.out (j:=1) (x:=gn cc 1) (gn_some cc 1 (by rw[HCL.out];omega))
      obtain⟨y1,hy1⟩:∃ y,gn cc 1=y:=⟨_,rfl⟩
      rw[hy1] at e7
      have hne:¬ i=1:=by omega
      have hne2:¬ 1=i:=by omega
      obtain⟨c4,hc4⟩:∃ c,SM.swapN cc 1 i=c:=⟨_,rfl⟩
      have h5:At B w0 ((w3.setCell ⟨b,1,none⟩ (.int .u32 y)).setCell ⟨b,i,none⟩ (.int .u32 y1)).drew p (M.u_lits ref r d c4) F:=by
       have:=(H4.out.swap_cls (lits_get HI.out cc) HB.out (i:=1) (j:=i) (by show 1<cc.length;rw[HCL.out];omega) (by show i<cc.length;rw[HCL.out];exact hil)).drewN 1
       rw[show (Fl.mk r.a r.c cc).xs=cc from rfl,HY.out,hy1,lits_lits,hc4] at this
       exact this
      have hg1:gn c4 1=y:=by rw[←hc4];unfold SM.swapN;rw[gn_set_ne (by omega),gn_set_eq (by rw[HCL.out];omega),HY.out]
      have hc4l:c4.length=ln:=by rw[←hc4,swap_len,HCL.out]
      have HR:=Lib.hid (show M.sv.look ref x0=((M.sv.setCl ref c4).watch y ref,true,false) by
       rw[HG0.out,←HFW2.out,if_pos hs]
       simp only
       rw[hc4,HY.out])
      have H5:=Lib.hid h5
      have HG1:=Lib.hid hg1
      have HC4:=Lib.hid hc4l
      clear hy1 hc4 h5 hg1 hc4l
      go_wp2
      go_region
      have h5:=H5.out
      clear e5 f5 e7 f7 H5 H4
      revert h5
      generalize ((w3.setCell ⟨b,1,none⟩ (.int .u32 y)).setCell ⟨b,i,none⟩ (.int .u32 y1)).drew=w4
      intro h5
      have hwl:y<M.watches.xs.length:=by
       have h8:(M.watches.xs.map (·.xs)).length=2*M.value.xs.length:=HK.out.sz.watches
       rw[List.length_map] at h8
       omega
      obtain⟨rw_,hrw⟩:∃ x,M.watches.xs[y]?=some x:=⟨M.watches.xs[y],by simp[hwl]⟩
      obtain⟨bw,hbw⟩:=h5.b_watches (by show 0<M.watches.xs.length;omega)
      obtain⟨o3,o4⟩:=h5.o_watches hbw hrw
      obtain⟨e8,f8⟩:=h5.e_cls (lits_get HI.out c4) HB.out (j:=1) (x:=y) (by rw[gn_some c4 1 (by rw[HC4.out];omega),HG1.out])
      have c6:=h5.c_watches
      obtain⟨nw,hnw⟩:∃ nw,M.watches.xs.length=nw:=⟨_,rfl⟩
      obtain⟨nr,hnr⟩:∃ nr,rw_.xs.length=nr:=⟨_,rfl⟩
      have hnrb:nr≤1000000:=by
       rw[←hnr]
       exact HK.out.rows _ (List.mem_map.2 ⟨rw_,List.mem_of_getElem? hrw,rfl⟩)
      rw[hbw,show (M.u_lits ref r d c4).watches.xs.length=nw from hnw] at c6
      rw[hnr] at o3
      simp only[Option.map_some] at c6
      have hrow:=h5.row_watches hrw
      unfold Fl.hp at hrow
      rw[hnr] at hrow
      have HROW:=Lib.hid hrow
      have HRW:=Lib.hid hrw
      have HBW:=Lib.hid hbw
      have HNR:=Lib.hid hnr
      have HNW:=Lib.hid hnw
      have HLN5:=Lib.hid h5.lastN
      have y0':(0:Int)≤(y:Int):=by omega
      have y1':(y:Int)<(nw:Int):=by omega
      have q6:∀ o,(w4.alloc o).cell? ⟨p,6,none⟩=some (.slice (some ⟨bw,0,none⟩) nw M.watches.c):=fun o=>(World.cell?_alloc_some _ _ _ (by rw[c6];rfl)).trans c6
      have q8:∀ o,(w4.alloc o).cell? ⟨b,1,none⟩=some (.int .u32 y):=fun o=>(World.cell?_alloc_some _ _ _ (by rw[e8];rfl)).trans e8
      have q3:∀ o,(w4.alloc o).cell? ⟨bw,y,none⟩=some (.slice (rw_.a.map fun b=>⟨b,0,none⟩) nr rw_.c):=fun o=>(World.cell?_alloc_some _ _ _ (by rw[o3];rfl)).trans o3
      have HPP:=Lib.hid (show ∀ (b' c':Nat) (w5:World),St B w0 w5 (star (sl (some b') (nr+1) c' 3 1 (rw_.xs.map vN++[vN ref])) (hole_watches p (M.u_lits ref r d c4) y F)) →
        w5.cell? ⟨p,6,none⟩=some (.slice (some ⟨bw,0,none⟩) nw M.watches.c)∧(w5.cell? ⟨bw,y,none⟩=some (.slice (rw_.a.map fun b=>⟨b,0,none⟩) nr rw_.c)∧w5.frozen? ⟨bw,y,none⟩=false)∧w5.cell? ⟨b,1,none⟩=some (.int .u32 y) ∧
        (w5.setCell ⟨bw,y,none⟩ (.slice (some ⟨b',0,none⟩) (nr+1) c')).cell? ⟨p,6,none⟩=some (.slice (some ⟨bw,0,none⟩) nw M.watches.c)∧(w5.setCell ⟨bw,y,none⟩ (.slice (some ⟨b',0,none⟩) (nr+1) c')).cell? ⟨b,1,none⟩=some (.int .u32 y) ∧
        At B w0 (w5.setCell ⟨bw,y,none⟩ (.slice (some ⟨b',0,none⟩) (nr+1) c')) p ((M.u_lits ref r d c4).u_watches ⟨M.watches.a,M.watches.c,M.watches.xs.set y ⟨some b',c',rw_.xs++[ref]⟩⟩) F from fun b' c' w5 h6=>by
       obtain⟨g1,g2,g3⟩:=At.rpush_watches (M:=M.u_lits ref r d c4) (x:=ref) h5.lastN hrw hbw hnr h6
       have g4:=At.unrow_e_cls (M:=M.u_lits ref r d c4) (rc:=⟨r.a,r.c,c4⟩) hrw h6 (lits_get HI.out c4) HB.out (j:=1) (x:=y) (by rw[gn_some c4 1 (by rw[HC4.out];omega),HG1.out])
       have g5:=g3.c_watches
       have g6:=(g3.e_cls (lits_get HI.out c4) HB.out (j:=1) (x:=y) (by rw[gn_some c4 1 (by rw[HC4.out];omega),HG1.out])).1
       rw[show (M.u_lits ref r d c4).watches.xs.length=nw from hnw] at g1
       rw[show ((M.u_lits ref r d c4).u_watches ⟨M.watches.a,M.watches.c,M.watches.xs.set y ⟨some b',c',rw_.xs++[ref]⟩⟩).watches.a=some bw from hbw,show ((M.u_lits ref r d c4).u_watches ⟨M.watches.a,M.watches.c,M.watches.xs.set y ⟨some b',c',rw_.xs++[ref]⟩⟩).watches.xs.length=nw by show (M.watches.xs.set y _).length=nw;rw[List.length_set];exact hnw] at g5
       exact⟨g1,g2,g4,g5,g6,g3⟩)
      clear hrow hrw hbw hnr hnw h5
      go_wp2
      refine wp_region_E 20 (fun V:World=>V.cell? ⟨p,6,none⟩=some (.slice (some ⟨bw,0,none⟩) nw M.watches.c)∧V.cell? ⟨b,1,none⟩=some (.int .u32 y)∧V.cell? ⟨bw,y,none⟩=some (.slice (rw_.a.map fun b=>⟨b,0,none⟩) nr rw_.c)) (by kernel_rfl) ?_
      have HS0:(fun V:World=>V.cell? ⟨p,6,none⟩=some (.slice (some ⟨bw,0,none⟩) nw M.watches.c)∧V.cell? ⟨b,1,none⟩=some (.int .u32 y)∧V.cell? ⟨bw,y,none⟩=some (.slice (rw_.a.map fun b=>⟨b,0,none⟩) nr rw_.c)) w4.drew:=⟨c6,e8,o3⟩
      refine E_takeL (i:=0) (v:=?v1) rfl (by kernel_rfl) (by kernel_rfl) (by kernel_rfl) (by kernel_rfl) (fun _ _ _ h=>h) rfl ?hy1 HS0 ?_
      case hy1 =>
       intro V hSV
       try dsimp only at hSV
       go_simp
       try with_reducible rfl
      try simp only[Act.put,List.setIfInBounds_toArray,List.set_cons_zero,List.set_cons_succ]
      refine E_takeL (i:=1) (v:=?v2) rfl (by kernel_rfl) (by kernel_rfl) (by kernel_rfl) (by kernel_rfl) (fun _ _ _ h=>h) rfl ?hy2 HS0 ?_
      case hy2 =>
       intro V hSV
       try dsimp only at hSV
       go_simp
       try with_reducible rfl
      try simp only[Act.put,List.setIfInBounds_toArray,List.set_cons_zero,List.set_cons_succ]
      refine E_takeL (i:=2) (v:=?v3) rfl (by kernel_rfl) (by kernel_rfl) (by kernel_rfl) (by kernel_rfl) (fun _ _ _ h=>h) rfl ?hy3 HS0 ?_
      case hy3 =>
       intro V hSV
       try dsimp only at hSV
       go_simp
       try with_reducible rfl
      try simp only[Act.put,List.setIfInBounds_toArray,List.set_cons_zero,List.set_cons_succ]
      refine E_takeL (i:=3) (v:=?v4) rfl (by kernel_rfl) (by kernel_rfl) (by kernel_rfl) (by kernel_rfl) (fun _ _ _ h=>h) rfl ?hy4 HS0 ?_
      case hy4 =>
       intro V hSV
       try dsimp only at hSV
       go_simp
       try with_reducible rfl
      try simp only[Act.put,List.setIfInBounds_toArray,List.set_cons_zero,List.set_cons_succ]
      refine E_takeL (i:=4) (v:=?v5) rfl (by kernel_rfl) (by kernel_rfl) (by kernel_rfl) (by kernel_rfl) (fun _ _ _ h=>h) rfl ?hy5 HS0 ?_
      case hy5 =>
       intro V hSV
       try dsimp only at hSV
       go_simp
       try with_reducible rfl
      try simp only[Act.put,List.setIfInBounds_toArray,List.set_cons_zero,List.set_cons_succ]
      refine E_takeL (i:=5) (v:=?v6) rfl (by kernel_rfl) (by kernel_rfl) (by kernel_rfl) (by kernel_rfl) (fun _ _ _ h=>h) rfl ?hy6 HS0 ?_
      case hy6 =>
       intro V hSV
       try dsimp only at hSV
       go_simp
       try with_reducible rfl
      try simp only[Act.put,List.setIfInBounds_toArray,List.set_cons_zero,List.set_cons_succ]
      refine E_takeL (i:=6) (v:=?v7) rfl (by kernel_rfl) (by kernel_rfl) (by kernel_rfl) (by kernel_rfl) (fun _ _ _ h=>h) rfl ?hy7 HS0 ?_
      case hy7 =>
       intro V hSV
       try dsimp only at hSV
       go_simp
       try with_reducible rfl
      try simp only[Act.put,List.setIfInBounds_toArray,List.set_cons_zero,List.set_cons_succ]
      refine E_takeL (i:=7) (v:=?v8) rfl (by kernel_rfl) (by kernel_rfl) (by kernel_rfl) (by kernel_rfl) (fun _ _ _ h=>h) rfl ?hy8 HS0 ?_
      case hy8 =>
       intro V hSV
       try dsimp only at hSV
       go_simp
       try with_reducible rfl
      try simp only[Act.put,List.setIfInBounds_toArray,List.set_cons_zero,List.set_cons_succ]
      refine E_takeL (i:=8) (v:=?v9) rfl (by kernel_rfl) (by kernel_rfl) (by kernel_rfl) (by kernel_rfl) (fun _ _ _ h=>h) rfl ?hy9 HS0 ?_
      case hy9 =>
       intro V hSV
       try dsimp only at hSV
       go_simp
       try with_reducible rfl
      try simp only[Act.put,List.setIfInBounds_toArray,List.set_cons_zero,List.set_cons_succ]
      refine E_takeL (i:=9) (v:=?v10) rfl (by kernel_rfl) (by kernel_rfl) (by kernel_rfl) (by kernel_rfl) (fun _ _ _ h=>h) rfl ?hy10 HS0 ?_
      case hy10 =>
       intro V hSV
       try dsimp only at hSV
       go_simp
       try with_reducible rfl
      try simp only[Act.put,List.setIfInBounds_toArray,List.set_cons_zero,List.set_cons_succ]
      refine E_takeL (i:=10) (v:=?v11) rfl (by kernel_rfl) (by kernel_rfl) (by kernel_rfl) (by kernel_rfl) (fun _ _ _ h=>h) rfl ?hy11 HS0 ?_
      case hy11 =>
       intro V hSV
       try dsimp only at hSV
       go_simp
       try with_reducible rfl
      try simp only[Act.put,List.setIfInBounds_toArray,List.set_cons_zero,List.set_cons_succ]
      refine E_takeL (i:=11) (v:=?v12) rfl (by kernel_rfl) (by kernel_rfl) (by kernel_rfl) (by kernel_rfl) (fun _ _ _ h=>h) rfl ?hy12 HS0 ?_
      case hy12 =>
       intro V hSV
       try dsimp only at hSV
       go_simp
       try with_reducible rfl
      try simp only[Act.put,List.setIfInBounds_toArray,List.set_cons_zero,List.set_cons_succ]
      refine E_takeL (i:=12) (v:=?v13) rfl (by kernel_rfl) (by kernel_rfl) (by kernel_rfl) (by kernel_rfl) (fun _ _ _ h=>h) rfl ?hy13 HS0 ?_
      case hy13 =>
       intro V hSV
       try dsimp only at hSV
       go_simp
       try with_reducible rfl
      try simp only[Act.put,List.setIfInBounds_toArray,List.set_cons_zero,List.set_cons_succ]
      refine E_takeL (i:=13) (v:=?v14) rfl (by kernel_rfl) (by kernel_rfl) (by kernel_rfl) (by kernel_rfl) (fun _ _ _ h=>h) rfl ?hy14 HS0 ?_
      case hy14 =>
       intro V hSV
       try dsimp only at hSV
       go_simp
       try with_reducible rfl
      try simp only[Act.put,List.setIfInBounds_toArray,List.set_cons_zero,List.set_cons_succ]
      refine E_takeL (i:=14) (v:=?v15) rfl (by kernel_rfl) (by kernel_rfl) (by kernel_rfl) (by kernel_rfl) (fun _ _ _ h=>h) rfl ?hy15 HS0 ?_
      case hy15 =>
       intro V hSV
       try dsimp only at hSV
       go_simp
       try with_reducible rfl
      try simp only[Act.put,List.setIfInBounds_toArray,List.set_cons_zero,List.set_cons_succ]
      refine E_takeL (i:=15) (v:=?v16) rfl (by kernel_rfl) (by kernel_rfl) (by kernel_rfl) (by kernel_rfl) (fun _ _ _ h=>h) rfl ?hy16 HS0 ?_
      case hy16 =>
       intro V hSV
       try dsimp only at hSV
       go_simp
       try with_reducible rfl
      try simp only[Act.put,List.setIfInBounds_toArray,List.set_cons_zero,List.set_cons_succ]
      refine E_takeL (i:=16) (v:=?v17) rfl (by kernel_rfl) (by kernel_rfl) (by kernel_rfl) (by kernel_rfl) (fun _ _ _ h=>h) rfl ?hy17 HS0 ?_
      case hy17 =>
       intro V hSV
       try dsimp only at hSV
       go_simp
       try with_reducible rfl
      try simp only[Act.put,List.setIfInBounds_toArray,List.set_cons_zero,List.set_cons_succ]
      refine E_onlyL (i:=17) (by kernel_rfl) rfl (fun K hK=>?_)
      go_simp
      refine hK _ _ (⟨q6 _,q8 _,q3 _⟩) ?_
      clear hK K
      try simp only[Act.put,List.setIfInBounds_toArray,List.set_cons_zero,List.set_cons_succ]
      refine E_onlyL (i:=18) (by kernel_rfl) rfl (fun K hK=>?_)
      refine step_append1 (by rfl) _ _ 27 3 (.int .i64 0) 8 (by rfl) Tryz.underlying27 Tryz.infoIntS rfl (HROW.out.drew.alloc _) (by rfl) w4.heap.size (.int .i64 ref) (by rfl) (cell_new w4.drew _ _) rfl (by omega) (by simp only[maxLen];omega) ?_
      intro b' c' w5 h6 _
      obtain⟨g1,⟨g2,g3⟩,g4,g5,g6,g7⟩:=HPP.out _ _ _ h6
      have H7:=Lib.hid g7
      clear g5 g6 g7 h6
      have HS2:(fun V:World=>V.cell? ⟨p,6,none⟩=some (.slice (some ⟨bw,0,none⟩) nw M.watches.c)∧V.cell? ⟨b,1,none⟩=some (.int .u32 y)∧V.cell? ⟨bw,y,none⟩=some (.slice (rw_.a.map fun b=>⟨b,0,none⟩) nr rw_.c)) _:=⟨g1,g4,g2⟩
      refine hK _ _ HS2 ?_
      clear hK K
      try simp only[Act.put,List.setIfInBounds_toArray,List.set_cons_zero,List.set_cons_succ]
      refine E_takeL (i:=19) (v:=?v18) rfl (by kernel_rfl) (by kernel_rfl) (by kernel_rfl) (by kernel_rfl) (fun _ _ _ h=>h) rfl ?hy18 HS2 ?_
      case hy18 =>
       intro V hSV
       try dsimp only at hSV
       go_simp
       try with_reducible rfl
      try simp only[Act.put,List.setIfInBounds_toArray,List.set_cons_zero,List.set_cons_succ]
      refine E_lastL (by kernel_rfl) rfl (by kernel_rfl) (fun K hK=>?_)
      go_simp
      refine hK _ _ ?_
      clear hK K
      go_wp2
      go_ret2
      refine⟨by rw[HR.out];rfl,_,H7.out,?_,rfl,rfl,fun j hj=>?_⟩
      ·rw[HR.out]
       unfold SM.watch
       rw[←sv_lits HI.out c4]
       show ({ (MM.sv (M.u_lits ref r d c4)) with watches:=(M.watches.xs.set y ⟨some b',c',rw_.xs++[ref]⟩).map (·.xs) }:SM)={ (MM.sv (M.u_lits ref r d c4)) with watches:=(M.watches.xs.map (·.xs)).set y (gN (M.watches.xs.map (·.xs)) y++[ref]) }
       have hgn:gN (M.watches.xs.map (·.xs)) y=rw_.xs:=by simp[gN,List.getD_eq_getElem?_getD,HRW.out]
       rw[List.map_set,hgn]
      ·show (M.watches.xs.set y _)[j]?=_
       rw[List.getElem?_set_ne (fun e=>by rw[←e,HSY.out] at hj;omega)]
     ·have e6:decide (0≤sy)=false:=by simpa using hs
      have HFW3:=Lib.hid (show M.sv.findW (ln-(i+1)) cc (i+1)=M.sv.findW (ln-2) cc 2 by have:=HFW2.out;rwa [if_neg hs] at this)
      go_wp2
      go_roundg (ln-(i+1))
      case measure=>have:=hg.out;omega
      case rel=>exact⟨i+1,by go_num,by omega,by omega,rfl,H4.out,HFW3.out⟩
    ·obtain rfl:i=ln:=by omega
     have HNO:=Lib.hid (show M.sv.findW (i-2) cc 2=none by rw[←HFW.out,Nat.sub_self];rfl)
     obtain⟨e4,f4⟩:=H3.out.e_cls (lits_get HI.out cc) HB.out (j:=0) (x:=y0) (by rw[gn_some cc 0 (by rw[HCL.out];omega),HY0.out])
     have HIS:=Lib.hid (sis_any y0 H3.out (by have:=HCV.out _ (gn_mem cc 0 (by rw[HCL.out];omega));rw[HY0.out] at this;exact this) HK.out.small (HK.out.val _))
     rw[show (MM.sv (M.u_lits ref r d cc)).isL y0=s0 from HS0.out] at HIS
     clear HFW
     go_wp2_with fail
     refine HIS.out.mono ?_
     rintro e w3 ⟨rfl,hd⟩
     have H4:=Lib.hid (H3.out.drawn hd)
     clear hd HIS e4 f4
     by_cases hs:s0<0
     ·have e6:decide (s0<0)=true:=by simpa using hs
      have HR:=Lib.hid (show M.sv.look ref x0=(M.sv.setCl ref cc,false,true) by rw[HG0.out,HNO.out];simp only;rw[if_pos hs])
      go_wp2
      go_ret2
      exact⟨by rw[HR.out];rfl,_,H4.out,by rw[HR.out];exact sv_lits HI.out cc,rfl,rfl,fun _ _=>rfl⟩
     ·have e6:decide (s0<0)=false:=by simpa using hs
      have HR:=Lib.hid (show M.sv.look ref x0=((M.sv.setCl ref cc).setL y0 ref,false,false) by rw[HG0.out,HNO.out];simp only;rw[if_neg hs])
      obtain⟨e5,f5⟩:=H4.out.e_cls (lits_get HI.out cc) HB.out (j:=0) (x:=y0) (by rw[gn_some cc 0 (by rw[HCL.out];omega),HY0.out])
      have HSET:=Lib.hid (set_any y0 ref H4.out (by have:=HCV.out _ (gn_mem cc 0 (by rw[HCL.out];omega));rw[HY0.out] at this;exact this) HK.out.sz.level HK.out.sz.reason HK.out.small (by have:M.trail.xs.length≤900000:=HK.out.trail;show M.trail.xs.length≤_;omega))
      go_wp2_with fail
      refine HSET.out.mono ?_
      rintro e w5 ⟨rfl,a1,a2,a3,a4,h6,h7⟩
      have H6:=Lib.hid h6
      have H7:=Lib.hid h7
      clear h6 h7 HSET
      go_wp2
      go_ret2
      exact⟨by rw[HR.out];rfl,_,H6.out,by rw[HR.out,←sv_lits HI.out cc];exact H7.out,rfl,rfl,fun _ _=>rfl⟩
 ·have e3:((x0:Int)==(l:Int))=false:=by simp;omega
  obtain⟨cc,hcc⟩:∃ cc,r.xs=cc:=⟨_,rfl⟩
  have HL2:=Lib.hid (show M.sv.look ref l=lookC M.sv ref cc by rw[HLOOK.out,if_neg (by rw[HX0.out];exact hc0),hcc])
  have HCL:=Lib.hid (show cc.length=ln by rw[←hcc,HLN.out])
  have HCV:=Lib.hid (show ∀ x∈cc,x/2<M.value.xs.length by rw[←hcc];exact HLV.out)
  have H1:=Lib.hid (show At B w0 w p (M.u_lits ref r d cc) F by rw[←hcc,lits_self HI.out];exact H.out)
  clear hcc
  go_enter Tryz.func87,Tryz.ntmps87
  go_upto_if 22 with fail
  clear e0 e1 f0 f1 c5 o1 o2
  obtain⟨w1,hw1⟩:∃ w1,w=w1:=⟨_,rfl⟩
  subst hw1
  obtain⟨e4,f4⟩:=H1.out.e_cls (lits_get HI.out cc) HB.out (j:=0) (x:=gn cc 0) (gn_some cc 0 (by rw[HCL.out];omega))
  have HIS:=Lib.hid (sis_any (gn cc 0) H1.out (HCV.out _ (gn_mem _ _ (by rw[HCL.out];omega))) HK.out.small (HK.out.val _))
  obtain⟨y0,hy0⟩:∃ y,gn cc 0=y:=⟨_,rfl⟩
  rw[hy0] at e4 HIS
  obtain⟨s0,hs0⟩:∃ s,M.sv.isL y0=s:=⟨_,rfl⟩
  rw[show (MM.sv (M.u_lits ref r d cc)).isL y0=s0 from hs0] at HIS
  have HY0:=Lib.hid hy0
  have HS0:=Lib.hid hs0
  clear hy0 hs0
  go_wp2_with fail
  refine HIS.out.mono ?_
  rintro e w2 ⟨rfl,hd⟩
  have H2:=Lib.hid (H1.out.drawn hd)
  clear hd HIS e4 f4
  by_cases hp:0<s0
  ·have e5:decide (0<s0)=true:=by simpa using hp
   have HR:=Lib.hid (show M.sv.look ref l=(M.sv.setCl ref cc,false,false) by rw[HL2.out];unfold lookC;rw[HY0.out,HS0.out,if_pos hp])
   go_wp2
   go_ret2
   exact⟨by rw[HR.out];rfl,_,H2.out,by rw[HR.out];exact sv_lits HI.out cc,rfl,rfl,fun _ _=>rfl⟩
  ·have e5:decide (0<s0)=false:=by simpa using hp
   have HG0:=Lib.hid (show M.sv.look ref l=(match M.sv.findW (ln-2) cc 2 with
    | some i=>((M.sv.setCl ref (SM.swapN cc 1 i)).watch (gn cc i) ref,true,false)
    | none=>if s0<0 then (M.sv.setCl ref cc,false,true) else ((M.sv.setCl ref cc).setL y0 ref,false,false)) by
    rw[HL2.out];unfold lookC;rw[HY0.out,HS0.out,if_neg hp,HCL.out])
   go_wp2
   go_loopg [9] (ln-2) (fun g s9 wr=>∃ i:Nat,s9=.int .i64 i∧2≤i∧i≤ln∧Hid (g=ln-i)∧Hid (At B w0 wr p (M.u_lits ref r d cc) F)∧Hid (M.sv.findW (ln-i) cc i=M.sv.findW (ln-2) cc 2))
   case atStart=>exact⟨2,rfl,Nat.le_refl _,hl2,rfl,H2.out,rfl⟩
   case round =>
    obtain⟨i,rfl,hi2,hin,hg,H3,HFW⟩:=hrel
    by_cases hil:i<ln
    ·obtain⟨e4,f4⟩:=H3.out.e_cls (lits_get HI.out cc) HB.out (j:=i) (x:=gn cc i) (gn_some cc i (by rw[HCL.out];exact hil))
     have hyv:=HCV.out _ (gn_mem cc i (by rw[HCL.out];exact hil))
     have HIS:=Lib.hid (sis_any (gn cc i) H3.out hyv HK.out.small (HK.out.val _))
     obtain⟨y,hy⟩:∃ y,gn cc i=y:=⟨_,rfl⟩
     rw[hy] at e4 HIS hyv
     obtain⟨sy,hsy⟩:∃ s,M.sv.isL y=s:=⟨_,rfl⟩
     rw[show (MM.sv (M.u_lits ref r d cc)).isL y=sy from hsy] at HIS
     have HY:=Lib.hid hy
     have HSY:=Lib.hid hsy
     have i0:(0:Int)≤(i:Int):=by omega
     have i1:(i:Int)<(ln:Int):=by omega
     have hfw:=HFW.out
     rw[show ln-i=(ln-(i+1))+1 by omega,SM.findW,hy,hsy] at hfw
     have HFW2:=Lib.hid hfw
     clear hy hsy hfw
     go_wp2_with fail
     refine HIS.out.mono ?_
     rintro e w3 ⟨rfl,hd⟩
     have H4:=Lib.hid (H3.out.drawn hd)
     clear hd HIS e4 f4
     by_cases hs:0≤sy
     ·have e6:decide (0≤sy)=true:=by simpa using hs
      obtain⟨e5,f5⟩:=H4.out.e_cls (lits_get HI.out cc) HB.out (j:=i) (x:=y) (by rw[gn_some cc i (by rw[HCL.out];exact hil),HY.out])
      obtain⟨e7,f7⟩:=H4.out.e_cls (lits_get HI.out cc) HB.out (j:=1) (x:=gn cc 1) (gn_some cc 1 (by rw[HCL.out];omega))
      obtain⟨y1,hy1⟩:∃ y,gn cc 1=y:=⟨_,rfl⟩
      rw[hy1] at e7
      have hne:¬ i=1:=by omega
      have hne2:¬ 1=i:=by omega
      obtain⟨c4,hc4⟩:∃ c,SM.swapN cc 1 i=c:=⟨_,rfl⟩
      have h5:At B w0 ((w3.setCell ⟨b,1,none⟩ (.int .u32 y)).setCell ⟨b,i,none⟩ (.int .u32 y1)).drew p (M.u_lits ref r d c4) F:=by
       have:=(H4.out.swap_cls (lits_get HI.out cc) HB.out (i:=1) (j:=i) (by show 1<cc.length;rw[HCL.out];omega) (by show i<cc.length;rw[HCL.out];exact hil)).drewN 1
       rw[show (Fl.mk r.a r.c cc).xs=cc from rfl,HY.out,hy1,lits_lits,hc4] at this
       exact this
      have hg1:gn c4 1=y:=by rw[←hc4];unfold SM.swapN;rw[gn_set_ne (by omega),gn_set_eq (by rw[HCL.out];omega),HY.out]
      have hc4l:c4.length=ln:=by rw[←hc4,swap_len,HCL.out]
      have HR:=Lib.hid (show M.sv.look ref l=((M.sv.setCl ref c4).watch y ref,true,false) by
       rw[HG0.out,←HFW2.out,if_pos hs]
       simp only
       rw[hc4,HY.out])
      have H5:=Lib.hid h5
      have HG1:=Lib.hid hg1
      have HC4:=Lib.hid hc4l
      clear hy1 hc4 h5 hg1 hc4l
      go_wp2
      go_region
      have h5:=H5.out
      clear e5 f5 e7 f7 H5 H4
      revert h5
      generalize ((w3.setCell ⟨b,1,none⟩ (.int .u32 y)).setCell ⟨b,i,none⟩ (.int .u32 y1)).drew=w4
      intro h5
      have hwl:y<M.watches.xs.length:=by
       have h8:(M.watches.xs.map (·.xs)).length=2*M.value.xs.length:=HK.out.sz.watches
       rw[List.length_map] at h8
       omega
      obtain⟨rw_,hrw⟩:∃ x,M.watches.xs[y]?=some x:=⟨M.watches.xs[y],by simp[hwl]⟩
      obtain⟨bw,hbw⟩:=h5.b_watches (by show 0<M.watches.xs.length;omega)
      obtain⟨o3,o4⟩:=h5.o_watches hbw hrw
      obtain⟨e8,f8⟩:=h5.e_cls (lits_get HI.out c4) HB.out (j:=1) (x:=y) (by rw[gn_some c4 1 (by rw[HC4.out];omega),HG1.out])
      have c6:=h5.c_watches
      obtain⟨nw,hnw⟩:∃ nw,M.watches.xs.length=nw:=⟨_,rfl⟩
      obtain⟨nr,hnr⟩:∃ nr,rw_.xs.length=nr:=⟨_,rfl⟩
      have hnrb:nr≤1000000:=by
       rw[←hnr]
       exact HK.out.rows _ (List.mem_map.2 ⟨rw_,List.mem_of_getElem? hrw,rfl⟩)
      rw[hbw,show (M.u_lits ref r d c4).watches.xs.length=nw from hnw] at c6
      rw[hnr] at o3
      simp only[Option.map_some] at c6
      have hrow:=h5.row_watches hrw
      unfold Fl.hp at hrow
      rw[hnr] at hrow
      have HROW:=Lib.hid hrow
      have HRW:=Lib.hid hrw
      have HBW:=Lib.hid hbw
      have HNR:=Lib.hid hnr
      have HNW:=Lib.hid hnw
      have HLN5:=Lib.hid h5.lastN
      have y0':(0:Int)≤(y:Int):=by omega
      have y1':(y:Int)<(nw:Int):=by omega
      have q6:∀ o,(w4.alloc o).cell? ⟨p,6,none⟩=some (.slice (some ⟨bw,0,none⟩) nw M.watches.c):=fun o=>(World.cell?_alloc_some _ _ _ (by rw[c6];rfl)).trans c6
      have q8:∀ o,(w4.alloc o).cell? ⟨b,1,none⟩=some (.int .u32 y):=fun o=>(World.cell?_alloc_some _ _ _ (by rw[e8];rfl)).trans e8
      have q3:∀ o,(w4.alloc o).cell? ⟨bw,y,none⟩=some (.slice (rw_.a.map fun b=>⟨b,0,none⟩) nr rw_.c):=fun o=>(World.cell?_alloc_some _ _ _ (by rw[o3];rfl)).trans o3
      have HPP:=Lib.hid (show ∀ (b' c':Nat) (w5:World),St B w0 w5 (star (sl (some b') (nr+1) c' 3 1 (rw_.xs.map vN++[vN ref])) (hole_watches p (M.u_lits ref r d c4) y F)) →
        w5.cell? ⟨p,6,none⟩=some (.slice (some ⟨bw,0,none⟩) nw M.watches.c)∧(w5.cell? ⟨bw,y,none⟩=some (.slice (rw_.a.map fun b=>⟨b,0,none⟩) nr rw_.c)∧w5.frozen? ⟨bw,y,none⟩=false)∧w5.cell? ⟨b,1,none⟩=some (.int .u32 y) ∧
        (w5.setCell ⟨bw,y,none⟩ (.slice (some ⟨b',0,none⟩) (nr+1) c')).cell? ⟨p,6,none⟩=some (.slice (some ⟨bw,0,none⟩) nw M.watches.c)∧(w5.setCell ⟨bw,y,none⟩ (.slice (some ⟨b',0,none⟩) (nr+1) c')).cell? ⟨b,1,none⟩=some (.int .u32 y) ∧
        At B w0 (w5.setCell ⟨bw,y,none⟩ (.slice (some ⟨b',0,none⟩) (nr+1) c')) p ((M.u_lits ref r d c4).u_watches ⟨M.watches.a,M.watches.c,M.watches.xs.set y ⟨some b',c',rw_.xs++[ref]⟩⟩) F from fun b' c' w5 h6=>by
       obtain⟨g1,g2,g3⟩:=At.rpush_watches (M:=M.u_lits ref r d c4) (x:=ref) h5.lastN hrw hbw hnr h6
       have g4:=At.unrow_e_cls (M:=M.u_lits ref r d c4) (rc:=⟨r.a,r.c,c4⟩) hrw h6 (lits_get HI.out c4) HB.out (j:=1) (x:=y) (by rw[gn_some c4 1 (by rw[HC4.out];omega),HG1.out])
       have g5:=g3.c_watches
       have g6:=(g3.e_cls (lits_get HI.out c4) HB.out (j:=1) (x:=y) (by rw[gn_some c4 1 (by rw[HC4.out];omega),HG1.out])).1
       rw[show (M.u_lits ref r d c4).watches.xs.length=nw from hnw] at g1
       rw[show ((M.u_lits ref r d c4).u_watches ⟨M.watches.a,M.watches.c,M.watches.xs.set y ⟨some b',c',rw_.xs++[ref]⟩⟩).watches.a=some bw from hbw,show ((M.u_lits ref r d c4).u_watches ⟨M.watches.a,M.watches.c,M.watches.xs.set y ⟨some b',c',rw_.xs++[ref]⟩⟩).watches.xs.length=nw by show (M.watches.xs.set y _).length=nw;rw[List.length_set];exact hnw] at g5
       exact⟨g1,g2,g4,g5,g6,g3⟩)
      clear hrow hrw hbw hnr hnw h5
      go_wp2
      refine wp_region_E 20 (fun V:World=>V.cell? ⟨p,6,none⟩=some (.slice (some ⟨bw,0,none⟩) nw M.watches.c)∧V.cell? ⟨b,1,none⟩=some (.int .u32 y)∧V.cell? ⟨bw,y,none⟩=some (.slice (rw_.a.map fun b=>⟨b,0,none⟩) nr rw_.c)) (by kernel_rfl) ?_
      have HS0:(fun V:World=>V.cell? ⟨p,6,none⟩=some (.slice (some ⟨bw,0,none⟩) nw M.watches.c)∧V.cell? ⟨b,1,none⟩=some (.int .u32 y)∧V.cell? ⟨bw,y,none⟩=some (.slice (rw_.a.map fun b=>⟨b,0,none⟩) nr rw_.c)) w4.drew:=⟨c6,e8,o3⟩
      refine E_takeL (i:=0) (v:=?v19) rfl (by kernel_rfl) (by kernel_rfl) (by kernel_rfl) (by kernel_rfl) (fun _ _ _ h=>h) rfl ?hy19 HS0 ?_
      case hy19 =>
       intro V hSV
       try dsimp only at hSV
       go_simp
       try with_reducible rfl
      try simp only[Act.put,List.setIfInBounds_toArray,List.set_cons_zero,List.set_cons_succ]
      refine E_takeL (i:=1) (v:=?v20) rfl (by kernel_rfl) (by kernel_rfl) (by kernel_rfl) (by kernel_rfl) (fun _ _ _ h=>h) rfl ?hy20 HS0 ?_
      case hy20 =>
       intro V hSV
       try dsimp only at hSV
       go_simp
       try with_reducible rfl
      try simp only[Act.put,List.setIfInBounds_toArray,List.set_cons_zero,List.set_cons_succ]
      refine E_takeL (i:=2) (v:=?v21) rfl (by kernel_rfl) (by kernel_rfl) (by kernel_rfl) (by kernel_rfl) (fun _ _ _ h=>h) rfl ?hy21 HS0 ?_
      case hy21 =>
       intro V hSV
       try dsimp only at hSV
       go_simp
       try with_reducible rfl
      try simp only[Act.put,List.setIfInBounds_toArray,List.set_cons_zero,List.set_cons_succ]
      refine E_takeL (i:=3) (v:=?v22) rfl (by kernel_rfl) (by kernel_rfl) (by kernel_rfl) (by kernel_rfl) (fun _ _ _ h=>h) rfl ?hy22 HS0 ?_
      case hy22 =>
       intro V hSV
       try dsimp only at hSV
       go_simp
       try with_reducible rfl
      try simp only[Act.put,List.setIfInBounds_toArray,List.set_cons_zero,List.set_cons_succ]
      refine E_takeL (i:=4) (v:=?v23) rfl (by kernel_rfl) (by kernel_rfl) (by kernel_rfl) (by kernel_rfl) (fun _ _ _ h=>h) rfl ?hy23 HS0 ?_
      case hy23 =>
       intro V hSV
       try dsimp only at hSV
       go_simp
       try with_reducible rfl
      try simp only[Act.put,List.setIfInBounds_toArray,List.set_cons_zero,List.set_cons_succ]
      refine E_takeL (i:=5) (v:=?v24) rfl (by kernel_rfl) (by kernel_rfl) (by kernel_rfl) (by kernel_rfl) (fun _ _ _ h=>h) rfl ?hy24 HS0 ?_
      case hy24 =>
       intro V hSV
       try dsimp only at hSV
       go_simp
       try with_reducible rfl
      try simp only[Act.put,List.setIfInBounds_toArray,List.set_cons_zero,List.set_cons_succ]
      refine E_takeL (i:=6) (v:=?v25) rfl (by kernel_rfl) (by kernel_rfl) (by kernel_rfl) (by kernel_rfl) (fun _ _ _ h=>h) rfl ?hy25 HS0 ?_
      case hy25 =>
       intro V hSV
       try dsimp only at hSV
       go_simp
       try with_reducible rfl
      try simp only[Act.put,List.setIfInBounds_toArray,List.set_cons_zero,List.set_cons_succ]
      refine E_takeL (i:=7) (v:=?v26) rfl (by kernel_rfl) (by kernel_rfl) (by kernel_rfl) (by kernel_rfl) (fun _ _ _ h=>h) rfl ?hy26 HS0 ?_
      case hy26 =>
       intro V hSV
       try dsimp only at hSV
       go_simp
       try with_reducible rfl
      try simp only[Act.put,List.setIfInBounds_toArray,List.set_cons_zero,List.set_cons_succ]
      refine E_takeL (i:=8) (v:=?v27) rfl (by kernel_rfl) (by kernel_rfl) (by kernel_rfl) (by kernel_rfl) (fun _ _ _ h=>h) rfl ?hy27 HS0 ?_
      case hy27 =>
       intro V hSV
       try dsimp only at hSV
       go_simp
       try with_reducible rfl
      try simp only[Act.put,List.setIfInBounds_toArray,List.set_cons_zero,List.set_cons_succ]
      refine E_takeL (i:=9) (v:=?v28) rfl (by kernel_rfl) (by kernel_rfl) (by kernel_rfl) (by kernel_rfl) (fun _ _ _ h=>h) rfl ?hy28 HS0 ?_
      case hy28 =>
       intro V hSV
       try dsimp only at hSV
       go_simp
       try with_reducible rfl
      try simp only[Act.put,List.setIfInBounds_toArray,List.set_cons_zero,List.set_cons_succ]
      refine E_takeL (i:=10) (v:=?v29) rfl (by kernel_rfl) (by kernel_rfl) (by kernel_rfl) (by kernel_rfl) (fun _ _ _ h=>h) rfl ?hy29 HS0 ?_
      case hy29 =>
       intro V hSV
       try dsimp only at hSV
       go_simp
       try with_reducible rfl
      try simp only[Act.put,List.setIfInBounds_toArray,List.set_cons_zero,List.set_cons_succ]
      refine E_takeL (i:=11) (v:=?v30) rfl (by kernel_rfl) (by kernel_rfl) (by kernel_rfl) (by kernel_rfl) (fun _ _ _ h=>h) rfl ?hy30 HS0 ?_
      case hy30 =>
       intro V hSV
       try dsimp only at hSV
       go_simp
       try with_reducible rfl
      try simp only[Act.put,List.setIfInBounds_toArray,List.set_cons_zero,List.set_cons_succ]
      refine E_takeL (i:=12) (v:=?v31) rfl (by kernel_rfl) (by kernel_rfl) (by kernel_rfl) (by kernel_rfl) (fun _ _ _ h=>h) rfl ?hy31 HS0 ?_
      case hy31 =>
       intro V hSV
       try dsimp only at hSV
       go_simp
       try with_reducible rfl
      try simp only[Act.put,List.setIfInBounds_toArray,List.set_cons_zero,List.set_cons_succ]
      refine E_takeL (i:=13) (v:=?v32) rfl (by kernel_rfl) (by kernel_rfl) (by kernel_rfl) (by kernel_rfl) (fun _ _ _ h=>h) rfl ?hy32 HS0 ?_
      case hy32 =>
       intro V hSV
       try dsimp only at hSV
       go_simp
       try with_reducible rfl
      try simp only[Act.put,List.setIfInBounds_toArray,List.set_cons_zero,List.set_cons_succ]
      refine E_takeL (i:=14) (v:=?v33) rfl (by kernel_rfl) (by kernel_rfl) (by kernel_rfl) (by kernel_rfl) (fun _ _ _ h=>h) rfl ?hy33 HS0 ?_
      case hy33 =>
       intro V hSV
       try dsimp only at hSV
       go_simp
       try with_reducible rfl
      try simp only[Act.put,List.setIfInBounds_toArray,List.set_cons_zero,List.set_cons_succ]
      refine E_takeL (i:=15) (v:=?v34) rfl (by kernel_rfl) (by kernel_rfl) (by kernel_rfl) (by kernel_rfl) (fun _ _ _ h=>h) rfl ?hy34 HS0 ?_
      case hy34 =>
       intro V hSV
       try dsimp only at hSV
       go_simp
       try with_reducible rfl
      try simp only[Act.put,List.setIfInBounds_toArray,List.set_cons_zero,List.set_cons_succ]
      refine E_takeL (i:=16) (v:=?v35) rfl (by kernel_rfl) (by kernel_rfl) (by kernel_rfl) (by kernel_rfl) (fun _ _ _ h=>h) rfl ?hy35 HS0 ?_
      case hy35 =>
       intro V hSV
       try dsimp only at hSV
       go_simp
       try with_reducible rfl
      try simp only[Act.put,List.setIfInBounds_toArray,List.set_cons_zero,List.set_cons_succ]
      refine E_onlyL (i:=17) (by kernel_rfl) rfl (fun K hK=>?_)
      go_simp
      refine hK _ _ (⟨q6 _,q8 _,q3 _⟩) ?_
      clear hK K
      try simp only[Act.put,List.setIfInBounds_toArray,List.set_cons_zero,List.set_cons_succ]
      refine E_onlyL (i:=18) (by kernel_rfl) rfl (fun K hK=>?_)
      refine step_append1 (by rfl) _ _ 27 3 (.int .i64 0) 8 (by rfl) Tryz.underlying27 Tryz.infoIntS rfl (HROW.out.drew.alloc _) (by rfl) w4.heap.size (.int .i64 ref) (by rfl) (cell_new w4.drew _ _) rfl (by omega) (by simp only[maxLen];omega) ?_
      intro b' c' w5 h6 _
      obtain⟨g1,⟨g2,g3⟩,g4,g5,g6,g7⟩:=HPP.out _ _ _ h6
      have H7:=Lib.hid g7
      clear g5 g6 g7 h6
      have HS2:(fun V:World=>V.cell? ⟨p,6,none⟩=some (.slice (some ⟨bw,0,none⟩) nw M.watches.c)∧V.cell? ⟨b,1,none⟩=some (.int .u32 y)∧V.cell? ⟨bw,y,none⟩=some (.slice (rw_.a.map fun b=>⟨b,0,none⟩) nr rw_.c)) _:=⟨g1,g4,g2⟩
      refine hK _ _ HS2 ?_
      clear hK K
      try simp only[Act.put,List.setIfInBounds_toArray,List.set_cons_zero,List.set_cons_succ]
      refine E_takeL (i:=19) (v:=?v36) rfl (by kernel_rfl) (by kernel_rfl) (by kernel_rfl) (by kernel_rfl) (fun _ _ _ h=>h) rfl ?hy36 HS2 ?_
      case hy36 =>
       intro V hSV
       try dsimp only at hSV
       go_simp
       try with_reducible rfl
      try simp only[Act.put,List.setIfInBounds_toArray,List.set_cons_zero,List.set_cons_succ]
      refine E_lastL (by kernel_rfl) rfl (by kernel_rfl) (fun K hK=>?_)
      go_simp
      refine hK _ _ ?_
      clear hK K
      go_wp2
      go_ret2
      refine⟨by rw[HR.out];rfl,_,H7.out,?_,rfl,rfl,fun j hj=>?_⟩
      ·rw[HR.out]
       unfold SM.watch
       rw[←sv_lits HI.out c4]
       show ({ (MM.sv (M.u_lits ref r d c4)) with watches:=(M.watches.xs.set y ⟨some b',c',rw_.xs++[ref]⟩).map (·.xs) }:SM)={ (MM.sv (M.u_lits ref r d c4)) with watches:=(M.watches.xs.map (·.xs)).set y (gN (M.watches.xs.map (·.xs)) y++[ref]) }
       have hgn:gN (M.watches.xs.map (·.xs)) y=rw_.xs:=by simp[gN,List.getD_eq_getElem?_getD,HRW.out]
       rw[List.map_set,hgn]
      ·show (M.watches.xs.set y _)[j]?=_
       rw[List.getElem?_set_ne (fun e=>by rw[←e,HSY.out] at hj;omega)]
     ·have e6:decide (0≤sy)=false:=by simpa using hs
      have HFW3:=Lib.hid (show M.sv.findW (ln-(i+1)) cc (i+1)=M.sv.findW (ln-2) cc 2 by have:=HFW2.out;rwa [if_neg hs] at this)
      go_wp2
      go_roundg (ln-(i+1))
      case measure=>have:=hg.out;omega
      case rel=>exact⟨i+1,by go_num,by omega,by omega,rfl,H4.out,HFW3.out⟩
    ·obtain rfl:i=ln:=by omega
     have HNO:=Lib.hid (show M.sv.findW (i-2) cc 2=none by rw[←HFW.out,Nat.sub_self];rfl)
     obtain⟨e4,f4⟩:=H3.out.e_cls (lits_get HI.out cc) HB.out (j:=0) (x:=y0) (by rw[gn_some cc 0 (by rw[HCL.out];omega),HY0.out])
     have HIS:=Lib.hid (sis_any y0 H3.out (by have:=HCV.out _ (gn_mem cc 0 (by rw[HCL.out];omega));rw[HY0.out] at this;exact this) HK.out.small (HK.out.val _))
     rw[show (MM.sv (M.u_lits ref r d cc)).isL y0=s0 from HS0.out] at HIS
     clear HFW
     go_wp2_with fail
     refine HIS.out.mono ?_
     rintro e w3 ⟨rfl,hd⟩
     have H4:=Lib.hid (H3.out.drawn hd)
     clear hd HIS e4 f4
     by_cases hs:s0<0
     ·have e6:decide (s0<0)=true:=by simpa using hs
      have HR:=Lib.hid (show M.sv.look ref l=(M.sv.setCl ref cc,false,true) by rw[HG0.out,HNO.out];simp only;rw[if_pos hs])
      go_wp2
      go_ret2
      exact⟨by rw[HR.out];rfl,_,H4.out,by rw[HR.out];exact sv_lits HI.out cc,rfl,rfl,fun _ _=>rfl⟩
     ·have e6:decide (s0<0)=false:=by simpa using hs
      have HR:=Lib.hid (show M.sv.look ref l=((M.sv.setCl ref cc).setL y0 ref,false,false) by rw[HG0.out,HNO.out];simp only;rw[if_neg hs])
      obtain⟨e5,f5⟩:=H4.out.e_cls (lits_get HI.out cc) HB.out (j:=0) (x:=y0) (by rw[gn_some cc 0 (by rw[HCL.out];omega),HY0.out])
      have HSET:=Lib.hid (set_any y0 ref H4.out (by have:=HCV.out _ (gn_mem cc 0 (by rw[HCL.out];omega));rw[HY0.out] at this;exact this) HK.out.sz.level HK.out.sz.reason HK.out.small (by have:M.trail.xs.length≤900000:=HK.out.trail;show M.trail.xs.length≤_;omega))
      go_wp2_with fail
      refine HSET.out.mono ?_
      rintro e w5 ⟨rfl,a1,a2,a3,a4,h6,h7⟩
      have H6:=Lib.hid h6
      have H7:=Lib.hid h7
      clear h6 h7 HSET
      go_wp2
      go_ret2
      exact⟨by rw[HR.out];rfl,_,H6.out,by rw[HR.out,←sv_lits HI.out cc];exact H7.out,rfl,rfl,fun _ _=>rfl⟩
end
end Go.Proofs.YthbbmdnfkkffjaaGreat

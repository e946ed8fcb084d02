/-
  Parts of the proof, joined by program: Stp, Un0, Sl1, Sl2.
-/
import Derived.Test.YthbbmdnfkkffjaaGreatY07
import Derived.Test.YthbbmdnfkkffjaaGreatY03
import Derived.Test.YthbbmdnfkkffjaaGreatY06
import Derived.Test.YthbbmdnfkkffjaaGreatY01
import Derived.Test.YthbbmdnfkkffjaaGreatRows
import Derived.WalkSpells
import Derived.WalkLawsBesides
import Derived.Deep.LoopGhost
import Derived.Deep.QuietTactic
import Derived.BigQuiet
import Derived.BigRegion
import Derived.Lib.Hide
import Derived.Laws.BitsAllLaws
import Derived.Laws.BitsLemmas
import Derived.Deep.RegionWith
import Derived.Deep.DeepCutAuto
set_option maxHeartbeats 8000000
set_option maxRecDepth 100000
namespace Go.Proofs.YthbbmdnfkkffjaaGreat
open Go.RowKit Go.Proofs.aC Go.Proofs.au Go.Proofs.aA
theorem Ms (n:Nat) (w:World) (h:n≤10000000):Calls Tryz.prog 115 #[.int .i64 n] w fun e w'=>e=.returned (.int .i64 (-2-(n:Int)))∧w=w':=by
 have h1:IntKind.i64.wrap (-2-(n:Int))=-2-(n:Int):=by rw[IntKind.wrap_i64];omega
 go_enter Tryz.func115,Tryz.ntmps115
 go_wp2
 go_ret
 exact⟨rfl,rfl⟩
section
variable {B:Nat} {w0 w:World} {p:Nat} {M:MM} {F:HP}
theorem Mv (r:Fl Int) (h:At B w0 w p M (star (r.hp 3 vI) F)) (hr:0<r.xs.length) (hrl:r.xs.length≤1000000) (hn:M.steps.xs.length≤5000000) :
  Calls Tryz.prog 103 #[.pointer (some ⟨p,19,none⟩),r.v] w fun e w'=>e=.returned (.int .i64 (M.sv.step r.xs).2)∧∃ s,At B w0 w' p (M.Dp s) F∧MM.sv (M.Dp s)=(M.sv.step r.xs).1:=by
 obtain⟨n,hnn⟩:∃ n,M.steps.xs.length=n:=⟨_,rfl⟩;obtain⟨ln,hln⟩:∃ ln,r.xs.length=ln:=⟨_,rfl⟩;have h1:St B w0 w (star (r.hp 3 vI) (star (stars (parts p M)) F)):=h.st.aB (by ac_rfl);unfold Fl.hp at h1
 obtain⟨b,hb⟩:∃ b,r.a=some b:=by
  obtain⟨_,_,_,hnone,_⟩:=h1.sat.aR
  cases e:r.a with
  | none=>have:=(hnone e).1;omega
  | some b=>exact⟨b,rfl⟩
 have e0:w.cell? ⟨b,0,none⟩=some (.int .i64 (gi r.xs 0)):=by
  rw[hb] at h1;rw[h1.aW 0 (by rw[List.length_map];exact hr),List.getElem?_map,List.getElem?_eq_getElem hr,dh _ _ hr];rfl
 have I6:r.v=Value.slice (some ⟨b,0,none⟩) ln r.c:=by unfold Fl.v;rw[hln,hb];rfl
 have hst:M.sv.step r.xs=if ln=1 then (M.sv,gi r.xs 0) else ({ M.sv with steps:=M.sv.steps++[r.xs] },-2-(n:Int)):=by
  unfold SM.step;rw[hln,show M.sv.steps.length=n by show (M.steps.xs.map (·.xs)).length=n;rw[List.length_map];exact hnn]
 rw[I6];rw[hnn] at hn;rw[hln] at hr hrl;have HST:=zH hst;have H:=zH h;have HNN:=zH hnn;have Ie:=zH I6
 by_cases hl:ln=1
 ·have e1:((ln:Int)==1)=true:=by simp;omega
  have l0:0<ln:=hr;clear h h1 hst hnn hln hb I6;have HL:=zH hl;clear hl
  go_enter Tryz.func103,Tryz.ntmps103
  go_wp2
  go_ret
  exact⟨by rw[HST.out,if_pos HL.out];rfl,M.steps,H.out.iL,by rw[HST.out,if_pos HL.out]⟩
 ·have e1:((ln:Int)==1)=false:=by simp;omega
  have c1:=h.zi;have t1:St B w0 w (star (sl M.steps.a n M.steps.c 27 1 (M.steps.xs.map Fl.v)) (star (stars ((parts p M).eraseIdx 23)) (star (r.hp 3 vI) F))):=by rw[←hnn];exact h.Te
  rw[hnn] at c1;have HT:=zH t1;have HL:=zH hl;clear h h1 hst hnn hln hb I6 t1 hl
  go_enter Tryz.func103,Tryz.ntmps103
  go_upto_region 4 with (at_builtin;refine aO rfl _ _ 37 27 (.slice none 0 0) 24 rfl Tryz.underlying37 Tryz.jB rfl HT.out rfl (.slice (some ⟨b,0,none⟩) ln r.c) rfl rfl (by omega) (by simp only[maxLen];omega) ?_;intro b' c' w3 h5;have h6:=At.Ib (M:=M) (r:=r) H.out.bA HNN.out (Ie.out▸h5);have H6:=zH h6;clear h5 h6;obtain⟨c7,f7⟩:=H6.out.1)
  have h2:=H6.out.2;clear H6 c7 f7 c1 HT;revert h2;generalize w3.setCell ⟨p,19,none⟩ (.slice (some ⟨b',0,none⟩) (n+1) c')=w4;intro h2;have c2:=h2.zi;have hl2:(M.steps.xs++[r]).length=n+1:=by rw[List.length_append,HNN.out];rfl
  have c3:w4.cell? ⟨p,19,none⟩=some (.slice (some ⟨b',0,none⟩) (n+1) c'):=by rw[←hl2];exact c2
  have H2:=zH h2;have HD:=zH (Ms n w4 (by omega));clear h2 c2 hl2
  go_wp2_with fail
  refine HD.out.mono ?_
  rintro e w5 ⟨rfl,rfl⟩
  go_wp2
  go_ret
  refine⟨by rw[HST.out,if_neg HL.out];rfl,_,H2.out,?_⟩;rw[HST.out,if_neg HL.out];show ({ M.sv with steps:=(M.steps.xs++[r]).map (·.xs) }:SM)={ M.sv with steps:=M.steps.xs.map (·.xs)++[r.xs] };rw[List.map_append];rfl
end
end Go.Proofs.YthbbmdnfkkffjaaGreat
namespace Go.Proofs.YthbbmdnfkkffjaaGreat
open Go.Proofs.au Go.Proofs.aA
structure zG (S:SM) (Z:Nat→Prop) (rk:Nat→Nat):Prop where
 units:S.units.length=S.value.length
 reason:S.reason.length=S.value.length
 small:S.value.length≤100000
 cls:S.cls.length≤1000000
 uI:S.steps.length+S.units.count (-1)≤4000000
 ids:∀ r,r<S.cls.length→S.id r≠-1
 z:∀ v,Z v→v<S.value.length
 r:∀ v,Z v→∃ r:Nat,gi S.reason v=r∧r<S.cls.length∧(S.cl r).length≤100000∧∀ l∈S.cl r,l/2<S.value.length∧(l/2≠v→Z (l/2)∧rk (l/2)<rk v)
def SM.wUn (S:SM) (u:List Int) (st:List (List Int)):SM:={ S with units:=u,steps:=st }
structure tX (S T:SM):Prop where
 same:∃ u st,T=SM.wUn S u st
 units:T.units.length=S.units.length
 uI:T.steps.length+T.units.count (-1)≤S.steps.length+S.units.count (-1)
 grow:S.steps.length≤T.steps.length
theorem tX.refl (S:SM):tX S S:=⟨⟨S.units,S.steps,rfl⟩,rfl,Nat.le_refl _,Nat.le_refl _⟩
theorem tX.trans {S T U:SM} (h:tX S T) (k:tX T U):tX S U :=
 ⟨by obtain⟨u,st,rfl⟩:=h.same;obtain⟨u2,st2,rfl⟩:=k.same;exact⟨u2,st2,rfl⟩,k.units.trans h.units,Nat.le_trans k.uI h.uI,Nat.le_trans h.grow k.grow⟩
theorem tX.value {S T:SM} (h:tX S T):T.value=S.value:=by obtain⟨_,_,rfl⟩:=h.same;rfl
theorem tX.reason {S T:SM} (h:tX S T):T.reason=S.reason:=by obtain⟨_,_,rfl⟩:=h.same;rfl
theorem tX.cls {S T:SM} (h:tX S T):T.cls=S.cls:=by obtain⟨_,_,rfl⟩:=h.same;rfl
theorem tX.id {S T:SM} (h:tX S T) (r:Nat):T.id r=S.id r:=by unfold SM.id;rw[h.cls]
theorem tX.cl {S T:SM} (h:tX S T) (r:Nat):T.cl r=S.cl r:=by unfold SM.cl;rw[h.cls]
theorem zG.AY {S T:SM} {Z:Nat→Prop} {rk:Nat→Nat} (h:zG S Z rk) (k:tX S T):zG T Z rk where
 units:=by rw[k.units,h.units,k.value]
 reason:=by rw[k.reason,k.value];exact h.reason
 small:=by rw[k.value];exact h.small
 cls:=by rw[k.cls];exact h.cls
 uI:=Nat.le_trans k.uI h.uI
 ids:=fun r hr=>by rw[k.id];rw[k.cls] at hr;exact h.ids r hr
 z:=fun v hv=>by rw[k.value];exact h.z v hv
 r:=fun v hv=>by
  obtain⟨r,h1,h2,h3,h4⟩:=h.r v hv;exact⟨r,by rw[k.reason];exact h1,by rw[k.cls];exact h2,by rw[k.cl];exact h3,fun l hl=>by rw[k.value];rw[k.cl] at hl;exact h4 l hl⟩
theorem count_set {l:List Int} {i:Nat} {x:Int} (hi:i<l.length) (h0:gi l i=-1) (hx:x≠-1):(l.set i x).count (-1)+1=l.count (-1):=by
 rw[List.count_set hi];have h1:l[i]=-1:=by rw[←dh _ _ hi];exact h0
 have h2:0<l.count (-1):=List.count_pos_iff.2 (h1▸List.getElem_mem hi);have h3:(x==-1)=false:=by simpa using hx
 rw[h1,h3];simp;omega
theorem Mw (S:SM) (fr:List Int):(S.step fr).1.steps.length≤S.steps.length+1∧S.steps.length≤(S.step fr).1.steps.length∧(S.step fr).1=SM.wUn S S.units (S.step fr).1.steps:=by
 unfold SM.step
 split
 ·exact⟨Nat.le_succ _,Nat.le_refl _,rfl⟩
 ·exact⟨by simp,by simp,rfl⟩
theorem WM (S:SM) (fr:List Int) (h:gi fr 0≠-1):(S.step fr).2≠-1:=by
 unfold SM.step
 split
 ·exact h
 ·show (-2-(S.steps.length:Int))≠-1;omega
theorem nE {l:List Int} {i j:Nat} {x:Int} (h:i≠j):gi (l.set i x) j=gi l j:=by simp[gi,List.getD_eq_getElem?_getD,List.getElem?_set_ne h]
theorem qP {l:List Int} {i:Nat} {x:Int} (h:i<l.length):gi (l.set i x) i=x:=by simp[gi,List.getD_eq_getElem?_getD,h]
theorem aaW {l m:List Int} (h:0<l.length):gi (l++m) 0=gi l 0:=by simp[gi,List.getD_eq_getElem?_getD,List.getElem?_append_left h]
structure Qs (S T:SM) (rk:Nat→Nat) (n:Nat):Prop where
 AY:tX S T
 high:∀ w,n<rk w→gi T.units w=gi S.units w
theorem Qs.refl (S:SM) (rk:Nat→Nat) (n:Nat):Qs S S rk n:=⟨tX.refl S,fun _ _=>rfl⟩
theorem vM {Z:Nat→Prop} {rk:Nat→Nat}:∀ (d:Nat) {S:SM} {v:Nat},zG S Z rk→Z v→rk v<d →
  Qs S (SM.bY d S v).1 rk (rk v)∧(SM.bY d S v).2≠-1
 | 0,_,_,_,_,h=>by omega
 | d+1,S,v,hu,hz,hd=>by
  rw[SM.bY]
  split
  ·rename_i h0;obtain⟨r,h1,h2,h3,h4⟩:=hu.r v hz;have hr:(gi S.reason v).toNat=r:=by rw[h1];exact Int.toNat_natCast r
   rw[hr]
   have key:∀ (ls:List Nat) (T:SM) (fr:List Int),(∀ l∈ls,l/2≠v→Z (l/2)∧rk (l/2)<rk v)→Qs S T rk (rk v-1)→0<rk v∨T=S→0<fr.length →
     (Qs S (SM.iU (SM.bY d) T v ls fr).1 rk (rk v-1)∧(0<rk v∨(SM.iU (SM.bY d) T v ls fr).1=S))∧0<(SM.iU (SM.bY d) T v ls fr).2.length∧gi (SM.iU (SM.bY d) T v ls fr).2 0=gi fr 0:=by
    intro ls
    induction ls with
    | nil=>intro T fr _ hT hp hf;exact⟨⟨hT,hp⟩,hf,rfl⟩
    | cons l ls ih =>
     intro T fr hl hT hp hf;rw[SM.iU]
     split
     ·exact ih T fr (fun x hx=>hl x (by simp[hx])) hT hp hf
     ·rename_i hne;obtain⟨z1,z2⟩:=hl l (by simp) hne;obtain⟨k1,_⟩:=vM d (hu.AY hT.AY) z1 (by omega)
      obtain⟨a1,a2,a3⟩:=ih (SM.bY d T (l/2)).1 (fr++[(SM.bY d T (l/2)).2]) (fun x hx=>hl x (by simp[hx]))
       ⟨hT.AY.trans k1.AY,fun w hw=>by rw[k1.high w (by omega),hT.high w hw]⟩ (.inl (by omega)) (by simp)
      exact⟨a1,a2,by rw[a3,aaW hf]⟩
   obtain⟨⟨a1,a1b⟩,a2,a3⟩:=key (S.cl r) S [S.id r] (fun l hl=>(h4 l hl).2) (Qs.refl _ _ _) (.inr rfl) (by simp);obtain⟨R,hR⟩:∃ R,SM.iU (SM.bY d) S v (S.cl r) [S.id r]=R:=⟨_,rfl⟩;rw[hR] at a1 a1b a2 a3 ⊢;obtain⟨b1,b2,b3⟩:=Mw R.1 R.2;have hn:(R.1.step R.2).2≠-1:=WM _ _ (by rw[a3];exact hu.ids r h2);have hvv:v<R.1.units.length:=by rw[a1.AY.units,hu.units];exact hu.z v hz
   have hv0:gi R.1.units v=-1:=by
    rcases a1b with h | h
    ·rw[a1.high v (by omega)];exact h0
    ·rw[h];exact h0
   have hst:(R.1.step R.2).1.units=R.1.units:=by rw[b3];rfl
   refine⟨⟨⟨?_,?_,?_,?_⟩,?_⟩,hn⟩
   ·obtain⟨u,st,e⟩:=a1.AY.same;obtain⟨Y,hY⟩:∃ Y,(R.1.step R.2).1.steps=Y:=⟨_,rfl⟩;obtain⟨y,hy⟩:∃ y,(R.1.step R.2).2=y:=⟨_,rfl⟩;show ∃ u st,SM.wUn (R.1.step R.2).1 ((R.1.step R.2).1.units.set v (R.1.step R.2).2) (R.1.step R.2).1.steps=SM.wUn S u st;rw[b3,hY,hy,e];exact⟨_,_,rfl⟩
   ·show ((R.1.step R.2).1.units.set v _).length=_;rw[List.length_set,hst,a1.AY.units]
   ·show (R.1.step R.2).1.steps.length+((R.1.step R.2).1.units.set v _).count (-1)≤_;rw[hst];have:=count_set hvv hv0 hn;have:=a1.AY.uI;omega
   ·exact Nat.le_trans a1.AY.grow b2
   ·intro w hw;show gi ((R.1.step R.2).1.units.set v _) w=_;rw[hst,nE (fun h=>by subst h;omega),a1.high w (by omega)]
  ·rename_i h0;exact⟨Qs.refl _ _ _,h0⟩
theorem lV {Z:Nat→Prop} {rk:Nat→Nat}:∀ (vs:List Nat) {S:SM} (fr:List Int),zG S Z rk→(∀ v∈vs,Z v)→(∀ v,Z v→rk v<S.value.length)→tX S (S.bH vs fr).1∧(S.bH vs fr).2.length=fr.length+vs.length
 | [],S,fr,_,_,_=>⟨tX.refl S,by simp[SM.bH]⟩
 | v :: vs,S,fr,h,hz,hr=>by
  rw[SM.bH];have h1:tX S (S.unit v).1:=(vM S.value.length h (hz v (by simp)) (hr v (hz v (by simp)))).1.AY;have h2:=lV vs (S:=(S.unit v).1) (fr++[(S.unit v).2]) (h.AY h1) (fun x hx=>hz x (by simp[hx])) (fun x hx=>by rw[h1.value];exact hr x hx);exact⟨h1.trans h2.1,by rw[h2.2];simp;omega⟩
theorem tX.eq {S T S':SM} (h:tX S T) (h1:∃ u st,S'=SM.wUn S u st) (hu:S'.units=T.units) (hs:S'.steps=T.steps):S'=T:=by
 obtain⟨u,st,rfl⟩:=h.same;obtain⟨u2,st2,rfl⟩:=h1;have e1:u2=u:=hu;have e2:st2=st:=hs;rw[e1,e2]
def SM.P6 (S:SM) (c la:List Int):SM:={ S with core:=c,last:=la }
theorem WO (S:SM) (c la fr:List Int):(SM.P6 S c la).step fr=(SM.P6 (S.step fr).1 c la,(S.step fr).2):=by
 unfold SM.step
 split <;> rfl
theorem Fj (c la:List Int):∀ (d:Nat) (S:SM) (v:Nat),SM.bY d (SM.P6 S c la) v=(SM.P6 (SM.bY d S v).1 c la,(SM.bY d S v).2)
 | 0,_,_=>rfl
 | d+1,S,v=>by
  have key:∀ (ls:List Nat) (S:SM) (fr:List Int),SM.iU (SM.bY d) (SM.P6 S c la) v ls fr=(SM.P6 (SM.iU (SM.bY d) S v ls fr).1 c la,(SM.iU (SM.bY d) S v ls fr).2):=by
   intro ls
   induction ls with
   | nil=>intro S fr;rfl
   | cons l ls ih =>
    intro S fr;rw[SM.iU,SM.iU]
    split
    ·exact ih S fr
    ·rw[Fj c la d S (l/2)];exact ih _ _
  rw[SM.bY,SM.bY]
  by_cases h:gi S.units v=-1
  ·rw[if_pos (show gi (SM.P6 S c la).units v=-1 from h),if_pos h];have k:=key (S.cl (gi S.reason v).toNat) S [S.id (gi S.reason v).toNat];have k2:SM.iU (SM.bY d) (SM.P6 S c la) v ((SM.P6 S c la).cl (gi (SM.P6 S c la).reason v).toNat) [(SM.P6 S c la).id (gi (SM.P6 S c la).reason v).toNat]=_:=k;rw[k2];dsimp only;rw[WO];rfl
  ·rw[if_neg (show ¬ gi (SM.P6 S c la).units v=-1 from h),if_neg h];rfl
end Go.Proofs.YthbbmdnfkkffjaaGreat
namespace Go.Proofs.YthbbmdnfkkffjaaGreat
open Go.RowKit Go.Proofs.aC Go.Proofs.au Go.Proofs.aA
theorem uJ {P:Program} {f:FuncId} {args:Array Value} {w:World} {v:Value} (c:∀ V,Calls P f args V fun e w'=>e=.returned v∧V=w') (n:Nat) :
  Calls P f args (w.drewN n) fun e w''=>e=.returned v∧∃ m,w''=w.drewN m:=(c _).mono fun _ _ h=>⟨h.1,n,h.2.symm⟩
theorem vO (l:Nat) (h:l<4294967296):bits .and .u32 (l:Int) 1=((l % 2:Nat):Int):=by
 have:=u32_and_nat l 1 h (by omega);rw[Nat.and_one_is_mod] at this;exact this
theorem Fp (k:Nat) (h:2*k<4294967296):bits .or .u32 ((2*k:Nat):Int) 1=((2*k+1:Nat):Int):=by
 have h1:=u32_or_nat (2*k) 1 h (by omega)
 have h2:(2*k) ||| 1=2*k+1:=by
  have a1:((2*k) ||| 1)/2=(2*k)/2:=by rw[Nat.or_div_two];simp
  have a2:((2*k) ||| 1) % 2=1:=by rw[Nat.or_mod_two_eq_one];simp
  omega
 rw[h2] at h1;exact h1
theorem pQ (l:Nat) (w:World) (h:l<1000000):Calls Tryz.prog 68 #[.int .u32 l] w fun e w'=>e=.returned (.int .i64 ((l/2:Nat):Int))∧w=w':=by
 go_enter Tryz.func68,Tryz.ntmps68
 go_wp2
 go_ret
 exact⟨by simp,rfl⟩
theorem uK (n:Int) (w:World) (h1:-65536≤n) (h2:n≤65536):Calls Tryz.prog 67 #[.int .i64 n] w fun e w'=>e=.returned (.int .u32 (aJ n))∧w=w':=by
 by_cases h3:n<0
 ·have hp:aJ n=2*n.natAbs+1:=by unfold aJ;rw[if_pos h3]
  have hb:=Fp n.natAbs (by omega);have e1:decide (n<0)=true:=by simpa using h3
  go_enter Tryz.func67,Tryz.ntmps67
  go_wp2
  go_ret
  exact⟨congrArg (fun z=>Ending.returned (.int .u32 z)) (by rw[show (-n*2)=((2*n.natAbs:Nat):Int) by omega,hb,hp]),rfl⟩
 ·have HP:=zH (show aJ n=2*n.natAbs by unfold aJ;rw[if_neg h3]);have e1:decide (n<0)=false:=by simpa using h3
  go_enter Tryz.func67,Tryz.ntmps67
  go_wp2
  go_ret
  exact⟨congrArg (fun z=>Ending.returned (.int .u32 z)) (by rw[show (n*2)=((2*n.natAbs:Nat):Int) by omega,HP.out]),rfl⟩
theorem yh (l:Nat) (w:World) (h:l<1000000):Calls Tryz.prog 105 #[.int .u32 l] w fun e w'=>e=.returned (.int .i64 (bI l))∧w=w':=by
 have hb:=vO l (by omega)
 by_cases h3:l % 2=1
 ·have hp:bI l=-((l/2:Nat):Int):=by unfold bI;rw[if_pos h3]
  rw[h3] at hb;have hb':bits BinOp.and IntKind.u32 (l:Int) 1=1:=hb
  go_enter Tryz.func105,Tryz.ntmps105
  go_wp2
  go_ret
  exact⟨congrArg (fun z=>Ending.returned (.int .i64 z)) (by rw[hp];omega),rfl⟩
 ·have hp:bI l=((l/2:Nat):Int):=by unfold bI;rw[if_neg h3]
  rw[show l % 2=0 by omega] at hb;have hb':bits BinOp.and IntKind.u32 (l:Int) 1=0:=hb
  go_enter Tryz.func105,Tryz.ntmps105
  go_wp2
  go_ret
  exact⟨congrArg (fun z=>Ending.returned (.int .i64 z)) (by rw[hp];omega),rfl⟩
section
variable {B:Nat} {w0 w:World} {p:Nat} {M:MM} {F:HP}
theorem KE (h:At B w0 w p M F):Calls Tryz.prog 85 #[.pointer (some ⟨p,0,none⟩)] w fun e w'=>e=.returned (.int .i64 M.ends.xs.length)∧w=w':=by
 have c1:=h.qo;clear h
 go_enter Tryz.func85,Tryz.ntmps85
 go_wp2
 go_ret
 exact⟨rfl,rfl⟩
def Da (x:Int):Prop:=x=1∨x=-1∨x=0
theorem mQ (l:Nat) (h:At B w0 w p M F) (hl:l/2<M.value.xs.length) (hs:M.value.xs.length≤100000) (hv:Da (gi M.value.xs (l/2))) :
  Calls Tryz.prog 90 #[.pointer (some ⟨p,0,none⟩),.int .u32 l] w fun e w'=>e=.returned (.int .i8 (M.sv.bF l))∧bJ w w':=by
 obtain⟨bv,hbv⟩:=h.zq (by omega);obtain⟨d1,_⟩:=h.zu hbv (i:=l/2) (x:=gi M.value.xs (l/2)) (by rw[dh _ _ hl];simp[hl]);have c1:=h.kI;rw[hbv] at c1;simp only[Option.map_some,v8] at c1 d1;have hl2:l<1000000:=by omega
 have HQ:=zH (fun (V:World)=>pQ l V hl2);have hb:=vO l (by omega);have hL:M.sv.bF l=if l % 2=1 then -(gi M.value.xs (l/2)) else gi M.value.xs (l/2):=rfl
 obtain⟨x,hx⟩:∃ x,gi M.value.xs (l/2)=x:=⟨_,rfl⟩;rw[hx] at d1 hL hv;obtain⟨ln,hln⟩:∃ ln,M.value.xs.length=ln:=⟨_,rfl⟩;rw[hln] at c1 hl;obtain⟨k,hk⟩:∃ k,l/2=k:=⟨_,rfl⟩;rw[hk] at d1 hl HQ;have HL:=zH hL;have k0:(0:Int)≤(k:Int):=by omega
 have k1:(k:Int)<(ln:Int):=by omega
 have hx1:-1≤x:=by unfold Da at hv;omega
 have hx2:x≤1:=by unfold Da at hv;omega
 clear h hx hln hk hbv hL
 by_cases h3:l % 2=1
 ·rw[h3] at hb;have hb':bits BinOp.and IntKind.u32 (l:Int) 1=1:=hb
  go_enter Tryz.func90,Tryz.ntmps90
  go_wp2
  go_quiet ((go_at_call 68;exact uJ HQ.out _))
  go_wp2
  go_ret
  exact⟨congrArg (fun z=>Ending.returned (.int .i8 z)) (by rw[HL.out,if_pos h3]),⟨_,rfl⟩⟩
 ·rw[show l % 2=0 by omega] at hb;have hb':bits BinOp.and IntKind.u32 (l:Int) 1=0:=hb
  go_enter Tryz.func90,Tryz.ntmps90
  go_wp2
  go_quiet ((go_at_call 68;exact uJ HQ.out _))
  go_wp2
  go_ret
  exact⟨congrArg (fun z=>Ending.returned (.int .i8 z)) (by rw[HL.out,if_neg h3]),⟨_,rfl⟩⟩
end
theorem Tryz.Dz:(Tryz.prog.info? 98).map (fun i=>(i.zero,i.size,i.bytes))=some (some (.int .u32 0),1,4):=by kernel_rfl
abbrev MM.Cn (M:MM) (a:Fl Int) (b:Fl Nat) (c:Fl Int) (d:Fl Nat):MM:={ M with value:=a,level:=b,reason:=c,trail:=d }
section
variable {B:Nat} {w0 w:World} {p:Nat} {M:MM} {F:HP}
theorem ags {a:Option Addr} {n c:Nat} (c1:w.cell? ⟨p,13,none⟩=some (.slice a n c)):Calls Tryz.prog 85 #[.pointer (some ⟨p,0,none⟩)] w fun e w'=>e=.returned (.int .i64 n)∧w=w':=by
 go_enter Tryz.func85,Tryz.ntmps85
 go_wp2
 go_ret
 exact⟨rfl,rfl⟩
theorem vP (l:Nat) (r:Int) (h:At B w0 w p M F) (hl:l/2<M.value.xs.length) (hlv:M.level.xs.length=M.value.xs.length) (hrs:M.reason.xs.length=M.value.xs.length) (hs:M.value.xs.length≤100000) (ht:M.trail.xs.length≤1000000) :
  Calls Tryz.prog 92 #[.pointer (some ⟨p,0,none⟩),.int .u32 l,.int .i64 r] w fun e w'=>e=.returned (.tuple #[]) ∧
   ∃ a b c d,At B w0 w' p (M.Cn a b c d) F∧MM.sv (M.Cn a b c d)=M.sv.bX l r:=by
 obtain⟨k,hk⟩:∃ k,l/2=k:=⟨_,rfl⟩;obtain⟨N,hN⟩:∃ N,M.value.xs.length=N:=⟨_,rfl⟩;rw[hk] at hl;rw[hN] at hl hlv hrs hs;obtain⟨bv,hbv⟩:=h.zq (by omega);obtain⟨bl,hbl⟩:=h.Dr (by omega);obtain⟨br,hbr⟩:=h.uF (by omega);obtain⟨d1,d2⟩:=h.zu hbv (i:=k) (x:=gi M.value.xs k) (gT _ _ (by omega));have c1:=h.kI;rw[hbv,hN] at c1;simp only[Option.map_some,v8] at c1 d1;have hl2:l<1000000:=by omega
 have HV:=zH (pQ l w hl2);have hb:=vO l (by omega);have n1:¬ bv=p:=h.SL hbv;have Ig:=zH hlv;have HRS:=zH hrs;have HN:=zH hN;have Ic:=zH hbv;have KF:=zH hbl;have Qt:=zH hbr;have H:=zH h;obtain⟨s,hsv⟩:∃ s:Int,(if l % 2=1 then -1 else 1)=s:=⟨_,rfl⟩
 have HSL:=zH (show M.sv.bX l r=MM.sv (M.Cn ⟨M.value.a,M.value.c,M.value.xs.set k s⟩ ⟨M.level.a,M.level.c,M.level.xs.set k M.ends.xs.length⟩ ⟨M.reason.a,M.reason.c,M.reason.xs.set k r⟩ ⟨M.trail.a,M.trail.c,M.trail.xs++[l]⟩) by
  rw[←hsv,←hk];rfl)
 have hin:k<M.value.xs.length:=by omega
 have HK:=zH hk;have k0:(0:Int)≤(k:Int):=by omega
 have k1:(k:Int)<(N:Int):=by omega
 obtain⟨nt,hnt⟩:∃ nt,M.trail.xs.length=nt:=⟨_,rfl⟩;obtain⟨ne,hne⟩:∃ ne,M.ends.xs.length=ne:=⟨_,rfl⟩;rw[hnt] at ht;have wJ:=zH hnt;have tL:=zH hne;have HIN:=zH hin;rw[hk] at HV;clear h hN hlv hrs hbv hbl hbr hk hnt hne hin
 by_cases h3:l % 2=1
 ·rw[h3] at hb;rw[if_pos h3] at hsv;subst hsv;have hb':bits BinOp.and IntKind.u32 (l:Int) 1=1:=hb
  have H1:=zH (show At B w0 ((w.setCell ⟨bv,k,none⟩ (.int .i8 1)).setCell ⟨bv,k,none⟩ (.int .i8 (-1))) p (M.ak ⟨M.value.a,M.value.c,M.value.xs.set k (-1)⟩) F by
   have:=(H.out.vJ Ic.out HIN.out 1).vJ (M:=M.ak ⟨M.value.a,M.value.c,M.value.xs.set k 1⟩) Ic.out (by show k<(M.value.xs.set k 1).length;rw[List.length_set];exact HIN.out) (-1);rw[show (M.value.xs.set k 1).set k (-1)=M.value.xs.set k (-1) by simp] at this
   exact this)
  go_enter Tryz.func92,Tryz.ntmps92
  go_wp2_with fail
  refine HV.out.mono ?_
  rintro e w' ⟨rfl,rfl⟩
  go_wp2
  have h1:=H1.out;clear H1 c1 d1 d2;revert h1;generalize ((w.setCell ⟨bv,k,none⟩ (.int .i8 1)).setCell ⟨bv,k,none⟩ (.int .i8 (-1)))=w1;intro h1;obtain⟨d3,d4⟩:=h1.zx KF.out (i:=k) (x:=gn M.level.xs k) (aM M.level.xs k (by rw[Ig.out];exact hl));obtain⟨d5,d6⟩:=h1.qK Qt.out (i:=k) (x:=gi M.reason.xs k) (gT M.reason.xs k (by have:=HRS.out;omega));have c3:=h1.vH;have c4:=h1.nO;have c5:=h1.qo;rw[show (M.ak ⟨M.value.a,M.value.c,M.value.xs.set k (-1)⟩).level.a=some bl from KF.out,show (M.ak ⟨M.value.a,M.value.c,M.value.xs.set k (-1)⟩).level.xs.length=N from Ig.out] at c3;rw[show (M.ak ⟨M.value.a,M.value.c,M.value.xs.set k (-1)⟩).reason.a=some br from Qt.out,show (M.ak ⟨M.value.a,M.value.c,M.value.xs.set k (-1)⟩).reason.xs.length=N from HRS.out] at c4;rw[show (M.ak ⟨M.value.a,M.value.c,M.value.xs.set k (-1)⟩).ends.xs.length=ne from tL.out] at c5;simp only[Option.map_some,vN,vI] at c3 c4 d3 d5
  have m1:¬ bl=br:=h1.Ti (i:=2) (j:=3) rfl rfl (by decide) KF.out Qt.out;have m2:¬ br=bl:=fun e=>m1 e.symm;have m3:¬ bl=p:=h1.SN KF.out;have m4:¬ br=p:=h1.D6 Qt.out;have H2:=zH h1;clear h1
  go_cut [35] (fun _ wx=>wx=((w1.setCell ⟨bl,k,none⟩ (.int .i64 ne)).setCell ⟨br,k,none⟩ (.int .i64 r)).drew)
  case first =>
   go_region_with ((go_at_call 85;refine (ags (p:=p) (by simpa using c5)).mono ?_;rintro e w' ⟨rfl,rfl⟩))
   all_goals
    go_wp2_with fail
    go_meet
    case rel=>exact rfl
  case rest =>
  subst hcut;have h3:=((H2.out.IQ KF.out (i:=k) (by show k<M.level.xs.length;rw[Ig.out];exact hl) ne).wV (M:=(M.ak ⟨M.value.a,M.value.c,M.value.xs.set k (-1)⟩).aD ⟨M.level.a,M.level.c,M.level.xs.set k ne⟩) Qt.out (i:=k) (by show k<M.reason.xs.length;rw[HRS.out];exact hl) r).drewN 1;clear c3 c4 c5 d3 d4 d5 d6 H2;revert h3;generalize hw2:((w1.setCell ⟨bl,k,none⟩ (.int .i64 ne)).setCell ⟨br,k,none⟩ (.int .i64 r)).drew=w2;intro h3
  have h4:At B w0 w2 p (M.Cn ⟨M.value.a,M.value.c,M.value.xs.set k (-1)⟩ ⟨M.level.a,M.level.c,M.level.xs.set k ne⟩ ⟨M.reason.a,M.reason.c,M.reason.xs.set k r⟩ M.trail) F:=by
   rw[←hw2];exact h3
  have c6:=h4.jV;have t6:=h4.mP;rw[show (M.Cn ⟨M.value.a,M.value.c,M.value.xs.set k (-1)⟩ ⟨M.level.a,M.level.c,M.level.xs.set k ne⟩ ⟨M.reason.a,M.reason.c,M.reason.xs.set k r⟩ M.trail).trail.xs.length=nt from wJ.out] at c6 t6;have H4:=zH h4;have HT6:=zH t6;clear h3 h4 t6 hw2
  go_wp2_with (at_builtin;refine aO rfl _ _ 85 98 (.int .u32 0) 4 rfl Tryz.underlying85 Tryz.Dz rfl HT6.out rfl (.int .u32 l) rfl rfl (by omega) (by simp only[maxLen];omega) ?_;intro b' c' w3 h5;have h6:=At.D7 (x:=l) H4.out.bA wJ.out h5;have H6:=zH h6;clear h5 h6;obtain⟨c7,f7⟩:=H6.out.1)
  go_end0
  refine⟨rfl,_,_,_,_,H6.out.2,?_⟩;rw[HSL.out,tL.out];rfl
 ·rw[show l % 2=0 by omega] at hb;rw[if_neg h3] at hsv;subst hsv;have hb':bits BinOp.and IntKind.u32 (l:Int) 1=0:=hb;have H1:=zH (show At B w0 (w.setCell ⟨bv,k,none⟩ (.int .i8 1)) p (M.ak ⟨M.value.a,M.value.c,M.value.xs.set k 1⟩) F from H.out.vJ Ic.out HIN.out 1)
  go_enter Tryz.func92,Tryz.ntmps92
  go_wp2_with fail
  refine HV.out.mono ?_
  rintro e w' ⟨rfl,rfl⟩
  go_wp2
  have h1:=H1.out;clear H1 c1 d1 d2;revert h1;generalize (w.setCell ⟨bv,k,none⟩ (.int .i8 1))=w1;intro h1;obtain⟨d3,d4⟩:=h1.zx KF.out (i:=k) (x:=gn M.level.xs k) (aM M.level.xs k (by rw[Ig.out];exact hl));obtain⟨d5,d6⟩:=h1.qK Qt.out (i:=k) (x:=gi M.reason.xs k) (gT M.reason.xs k (by have:=HRS.out;omega));have c3:=h1.vH;have c4:=h1.nO;have c5:=h1.qo;rw[show (M.ak ⟨M.value.a,M.value.c,M.value.xs.set k 1⟩).level.a=some bl from KF.out,show (M.ak ⟨M.value.a,M.value.c,M.value.xs.set k 1⟩).level.xs.length=N from Ig.out] at c3;rw[show (M.ak ⟨M.value.a,M.value.c,M.value.xs.set k 1⟩).reason.a=some br from Qt.out,show (M.ak ⟨M.value.a,M.value.c,M.value.xs.set k 1⟩).reason.xs.length=N from HRS.out] at c4;rw[show (M.ak ⟨M.value.a,M.value.c,M.value.xs.set k 1⟩).ends.xs.length=ne from tL.out] at c5;simp only[Option.map_some,vN,vI] at c3 c4 d3 d5
  have m1:¬ bl=br:=h1.Ti (i:=2) (j:=3) rfl rfl (by decide) KF.out Qt.out;have m2:¬ br=bl:=fun e=>m1 e.symm;have m3:¬ bl=p:=h1.SN KF.out;have m4:¬ br=p:=h1.D6 Qt.out;have H2:=zH h1;clear h1
  go_cut [35] (fun _ wx=>wx=((w1.setCell ⟨bl,k,none⟩ (.int .i64 ne)).setCell ⟨br,k,none⟩ (.int .i64 r)).drew)
  case first =>
   go_region_with ((go_at_call 85;refine (ags (p:=p) (by simpa using c5)).mono ?_;rintro e w' ⟨rfl,rfl⟩))
   all_goals
    go_wp2_with fail
    go_meet
    case rel=>exact rfl
  case rest =>
  subst hcut;have h3:=((H2.out.IQ KF.out (i:=k) (by show k<M.level.xs.length;rw[Ig.out];exact hl) ne).wV (M:=(M.ak ⟨M.value.a,M.value.c,M.value.xs.set k 1⟩).aD ⟨M.level.a,M.level.c,M.level.xs.set k ne⟩) Qt.out (i:=k) (by show k<M.reason.xs.length;rw[HRS.out];exact hl) r).drewN 1;clear c3 c4 c5 d3 d4 d5 d6 H2;revert h3;generalize hw2:((w1.setCell ⟨bl,k,none⟩ (.int .i64 ne)).setCell ⟨br,k,none⟩ (.int .i64 r)).drew=w2;intro h3
  have h4:At B w0 w2 p (M.Cn ⟨M.value.a,M.value.c,M.value.xs.set k 1⟩ ⟨M.level.a,M.level.c,M.level.xs.set k ne⟩ ⟨M.reason.a,M.reason.c,M.reason.xs.set k r⟩ M.trail) F:=by
   rw[←hw2];exact h3
  have c6:=h4.jV;have t6:=h4.mP;rw[show (M.Cn ⟨M.value.a,M.value.c,M.value.xs.set k 1⟩ ⟨M.level.a,M.level.c,M.level.xs.set k ne⟩ ⟨M.reason.a,M.reason.c,M.reason.xs.set k r⟩ M.trail).trail.xs.length=nt from wJ.out] at c6 t6;have H4:=zH h4;have HT6:=zH t6;clear h3 h4 t6 hw2
  go_wp2_with (at_builtin;refine aO rfl _ _ 85 98 (.int .u32 0) 4 rfl Tryz.underlying85 Tryz.Dz rfl HT6.out rfl (.int .u32 l) rfl rfl (by omega) (by simp only[maxLen];omega) ?_;intro b' c' w3 h5;have h6:=At.D7 (x:=l) H4.out.bA wJ.out h5;have H6:=zH h6;clear h5 h6;obtain⟨c7,f7⟩:=H6.out.1)
  go_end0
  refine⟨rfl,_,_,_,_,H6.out.2,?_⟩;rw[HSL.out,tL.out];rfl
end
end Go.Proofs.YthbbmdnfkkffjaaGreat

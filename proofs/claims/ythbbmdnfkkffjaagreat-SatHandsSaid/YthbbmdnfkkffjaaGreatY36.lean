/-
  Parts of the proof, joined by program: Cop, Ned1, Ned2.
-/
import Derived.Test.YthbbmdnfkkffjaaGreatY35
import Derived.Test.YthbbmdnfkkffjaaGreatY21
import Derived.Test.YthbbmdnfkkffjaaGreatY01
import Derived.StillTailTactics
import Derived.Lib.Hide
set_option maxHeartbeats 8000000
set_option maxRecDepth 100000
namespace Go.Proofs.YthbbmdnfkkffjaaGreat
open Go.RowKit Go.Proofs.aC Go.Proofs.aA
open Go.Proofs.au hiding SM
def wO (l:List (Fl Int)):vk:=l.map fun f=>(f.a,f.c,f.xs)
theorem VE (l:List (Fl Int)):(wO l).map (fun x=>x.2.2)=l.map (·.xs):=by unfold wO;rw[List.map_map];rfl
theorem BQ (l:List (Fl Int)):(wO l).length=l.length:=by unfold wO;simp
theorem ab0 (l:List (Fl Int)):JO (wO l)=l.map Fl.v:=by unfold JO wO;rw[List.map_map];rfl
theorem ab1 (f:Fl (Fl Int)):JQ (wO f.xs)=f.rows 3 vI:=by unfold JQ wO Fl.rows;rw[List.map_map];rfl
section
variable {B:Nat} {w0 w:World} {p:Nat} {M:MM} {F:HP}
theorem ae1 {f:Fl (Fl Int)} {i j:Nat} (h:At B w0 w p M F) (hi:(parts p M)[i]?=some (f.outer 27)) (hj:(parts p M)[j]?=some (stars (f.rows 3 vI))) (hij:i≠j):∃ G,St B w0 w (star (bR 27 f.a f.c (wO f.xs)) G):=by
 obtain⟨G,k⟩:=h.st.two hi hj hij;refine⟨G,k.aB ?_⟩;unfold bR;rw[ab0,ab1,BQ];unfold Fl.outer
 ac_rfl
theorem At.tQ {f:Fl (Fl Int)} {i j:Nat} (h:At B w0 w p M F) (hi:(parts p M)[i]?=some (f.outer 27)) (hj:(parts p M)[j]?=some (stars (f.rows 3 vI))) (hij:i≠j) (hl:∀ x∈f.xs,x.xs.length≤1000000) (hn:f.xs.length≤1000000) :
  um w (f.a.map fun b=>⟨b,0,none⟩) f.xs.length (f.xs.map (·.xs)):=by
 obtain⟨G,k⟩:=ae1 h hi hj hij
 have:=pF k (fun x hx=>by
  unfold wO at hx;obtain⟨y,hy,rfl⟩:=List.mem_map.1 hx;have:=hl y hy;show y.xs.length≤_
  omega) (by rw[BQ];omega)
 rw[BQ,VE] at this;exact this
end
theorem Gx (A:Option Addr) (n cap:Nat) (xss:List (List Int)) (w:World) (hr:um w A n xss) (hn:n≤1000000) (hs:∀ j,j<n→(gl xss j).length≤1000000) :
  Calls Tryz.prog 47 #[.slice A n cap] w fun e w'=>∃ (a:Option Nat) (c:Nat) (W:vk),e=.returned (.slice (a.map fun b=>⟨b,0,none⟩) n c)∧St w.heap.size w w' (star (bR 27 a c W) emp)∧W.map (fun x=>x.2.2)=xss∧W.length=n:=by
 have HR:=zH hr;have HS:=zH hs;clear hr hs
 go_enter Tryz.func47,Tryz.ntmps47
 go_wp2
 go_loopw [3,8] (fun v3 v4 wr=>∃ (j:Nat) (a:Option Nat) (c:Nat) (W:vk),j≤n∧v4=.int .i64 j∧v3=.slice (a.map fun b=>⟨b,0,none⟩) j c∧Hid (St w.heap.size w wr (star (bR 27 a c W) emp))∧Hid (W.map (fun x=>x.2.2)=xss.take j)∧Hid (W.length=j)) (fun _ v4 _=>n-(intOf v4).toNat)
 case atStart=>exact⟨0,none,0,[],Nat.zero_le _,rfl,rfl,(by rw[nI,aQ];exact St.start w:St w.heap.size w w (star (bR 27 none 0 []) emp)),(rfl:([]:vk).map (fun x=>x.2.2)=xss.take 0),(rfl:([]:vk).length=0)⟩
 case round =>
  obtain⟨j,a,c,W,hj,rfl,rfl,HST,HC,HL⟩:=hrel
  by_cases hjn:j<n
  ·obtain⟨ab,ao,hA,hc⟩:=(HR.out.grow HST.out.below).cells (by omega);subst hA;obtain⟨Aj,cj,d1,kC⟩:=hc j hjn;have hsm:=HS.out j hjn;obtain⟨xs,hxs⟩:∃ xs,gl xss j=xs:=⟨_,rfl⟩;obtain⟨ln,hln⟩:∃ ln,xs.length=ln:=⟨_,rfl⟩;rw[hxs,hln] at d1 kC;rw[hxs,hln] at hsm;have htk:xss.take (j+1)=xss.take j++[xs]:=by rw[lI xss j (by have:=HR.out.len;omega),hxs]
   have qH:=zH htk;have Gy:=zH kC;have fP:=zH hln;have hj0:(0:Int)≤(j:Int):=by omega
   have hj1:(j:Int)<(n:Int):=by omega
   clear hc kC hxs hln htk
   go_wp2_with fail
   refine (qZ Aj ln cj xs wr Gy.out (by omega)).mono ?_
   rintro e w3 ⟨ka,kc,rfl,k3⟩
   have h3:=jg ((HST.out.nest k3).aB (show _=star (bR 27 a c W) (bO 3 ka kc xs) by rw[aQ];ac_rfl)) HL.out;have H3:=zH h3;clear k3 h3;unfold iB;rw[fP.out]
   go_wp2_with (at_builtin;refine aO rfl _ _ 37 27 (.slice none 0 0) 24 rfl Tryz.underlying37 Tryz.jB rfl H3.out rfl (.slice (ka.map fun b=>⟨b,0,none⟩) ln kc) rfl rfl (by omega) (by simp only[maxLen];omega) ?_;intro b' c' w4 h4;have H4:=zH h4;clear h4)
   have h5:=mh (F:=emp) (ka:=ka) (kc:=kc) (l:=xs) HL.out (by rw[fP.out];exact H4.out.aB (by rw[aQ];ac_rfl));have H5:=zH h5;clear h5
   go_wp2
   go_roundw
   case rel =>
    refine⟨j+1,some b',c',W++[(ka,kc,xs)],by omega,by go_num,rfl,H5.out,(?_:(W++[(ka,kc,xs)]).map (fun x=>x.2.2)=xss.take (j+1)),(?_:(W++[(ka,kc,xs)]).length=j+1)⟩
    ·rw[qH.out,List.map_append,HC.out];rfl
    ·rw[List.length_append,HL.out];rfl
   case measure=>simp[intOf];omega
  ·obtain rfl:j=n:=by omega
   have hlen:=HR.out.len;have htk:=HC.out;rw[List.take_of_length_le (by omega)] at htk;have qH:=zH htk;clear hlen htk
   go_wp2
   go_ret
   exact⟨a,c,W,rfl,HST.out,qH.out,HL.out⟩
section
variable {B:Nat} {w0 w:World} {q:Nat} {S:SM} {F:HP}
def TY (w:World) (xss:List (List Int)) (e:Ending) (w':World):Prop :=
 ∃ (a:Option Nat) (c:Nat) (W:vk),e=.returned (.slice (a.map fun b=>⟨b,0,none⟩) W.length c)∧St w.heap.size w w' (star (bR 27 a c W) emp)∧W.map (fun x=>x.2.2)=xss
theorem vo (h:bL B w0 w q S F) (hl:∀ x∈S.given,x.length≤1000000) (hn:S.given.length≤1000000) :
  Calls Tryz.prog 23 #[.pointer (some ⟨q,0,none⟩)] w (TY w S.given):=by
 obtain⟨p,M,h1,h2⟩:=h;have k0:=bL.c h1;have hg:M.given.xs.map (·.xs)=S.given:=by rw[←h2];rfl
 have hgl:M.given.xs.length=S.given.length:=by rw[←hg,List.length_map]
 have hrd:=At.tQ (f:=M.given) (i:=15) (j:=16) h1 rfl rfl (by omega) (fun x hx=>hl _ (by rw[←hg];exact List.mem_map_of_mem hx)) (by omega);rw[hg] at hrd;have hgv:=Rb h1;obtain⟨n,hn2⟩:∃ n,M.given.xs.length=n:=⟨_,rfl⟩;rw[hn2] at hrd hgv;have hc:=Gx (M.given.a.map fun b=>⟨b,0,none⟩) n M.given.c S.given w hrd (by omega) (fun j hj=>hl _ (by rw[jq _ j (by omega)];exact List.getElem_mem _));have HC:=zH hc;have HG:=zH hgv;clear h1 h2 hg hgl hrd hgv hc hn2
 go_enter Tryz.func23,Tryz.ntmps23
 go_wp2_with fail
 refine HG.out.mono ?_
 rintro e w1 ⟨rfl,rfl⟩
 go_wp2_with fail
 refine HC.out.mono ?_
 rintro e w2 ⟨a,c,W,rfl,k1,k2,k3⟩
 have HK:=zH k1;have NQ:=zH k2;have Np:=zH k3;clear k1 k2 k3
 go_wp2
 go_ret
 exact⟨a,c,W,by rw[Np.out];rfl,HK.out,NQ.out⟩
theorem gM (h:bL B w0 w q S F) (hl:∀ x∈S.learned,x.length≤1000000) (hn:S.learned.length≤1000000) :
  Calls Tryz.prog 28 #[.pointer (some ⟨q,0,none⟩)] w (TY w S.learned):=by
 obtain⟨p,M,h1,h2⟩:=h;have k0:=bL.c h1;have hg:M.learned.xs.map (·.xs)=S.learned:=by rw[←h2];rfl
 have hgl:M.learned.xs.length=S.learned.length:=by rw[←hg,List.length_map]
 have hrd:=At.tQ (f:=M.learned) (i:=21) (j:=22) h1 rfl rfl (by omega) (fun x hx=>hl _ (by rw[←hg];exact List.mem_map_of_mem hx)) (by omega);rw[hg] at hrd;have hgv:=KU h1;obtain⟨n,hn2⟩:∃ n,M.learned.xs.length=n:=⟨_,rfl⟩;rw[hn2] at hrd hgv;have hc:=Gx (M.learned.a.map fun b=>⟨b,0,none⟩) n M.learned.c S.learned w hrd (by omega) (fun j hj=>hl _ (by rw[jq _ j (by omega)];exact List.getElem_mem _));have HC:=zH hc;have HG:=zH hgv;clear h1 h2 hg hgl hrd hgv hc hn2
 go_enter Tryz.func28,Tryz.ntmps28
 go_wp2_with fail
 refine HG.out.mono ?_
 rintro e w1 ⟨rfl,rfl⟩
 go_wp2_with fail
 refine HC.out.mono ?_
 rintro e w2 ⟨a,c,W,rfl,k1,k2,k3⟩
 have HK:=zH k1;have NQ:=zH k2;have Np:=zH k3;clear k1 k2 k3
 go_wp2
 go_ret
 exact⟨a,c,W,by rw[Np.out];rfl,HK.out,NQ.out⟩
end
end Go.Proofs.YthbbmdnfkkffjaaGreat
namespace Go.Proofs.aA
open Go.Proofs.au
def p8 (m:List Bool) (l:List Int):List Bool:=l.foldl (fun m x=>if x< -1 then m.set (-2-x).toNat true else m) m
def nGo (steps:List (List Int)):Nat→List Bool→List Bool
 | 0,m=>m
 | i+1,m=>nGo steps i (if gB m i then p8 m (gl steps i) else m)
def kS (now:List Int) (l:List Int):List Int:=l.map fun x=>if x< -1 then gi now (-2-x).toNat else x
def NR (steps:List (List Int)) (need:List Bool) (n:Nat):Nat→Nat→List Int→List (List Int)→List Int×List (List Int)
 | 0,_,now,out=>(now,out)
 | f+1,i,now,out =>
  if gB need i then NR steps need n f (i+1) (now.set i ((n:Int)+out.length)) (out++[kS (now.set i ((n:Int)+out.length)) (gl steps i)])
  else NR steps need n f (i+1) now out
def nk (steps:List (List Int)) (last:List Int) (n:Nat):List (List Int) :=
 let m:=nGo steps steps.length (p8 (List.replicate steps.length false) last)
 let R:=NR steps m n steps.length 0 (List.replicate steps.length 0) []
 R.2++[kS R.1 last]
theorem BR:∀ (l:List Int) (m:List Bool),(p8 m l).length=m.length
 | [],_=>rfl
 | x :: r,m=>by
  show (p8 (if x< -1 then m.set (-2-x).toNat true else m) r).length=_
  rw[BR r]
  split <;> simp
def sU (m:Nat) (l:List Int):Prop:=∀ x∈l,x< -1→(-2-x).toNat<m
end Go.Proofs.aA
namespace Go.Proofs.YthbbmdnfkkffjaaGreat
open Go.RowKit Go.Proofs.aC Go.Proofs.aA
open Go.Proofs.au hiding SM
theorem Tryz.VF:(Tryz.prog.info? 4).map (·.size)=some 1:=by kernel_rfl
section
variable {B:Nat} {w0 w:World} {F:HP}
theorem NS (A:Option Addr) (n c bn nb m:Nat) (l:List Int) (N:List Bool) (h:St B w0 w (star (pt bn 84 [.slice (some ⟨nb,0,none⟩) m m]) (star (sl (some nb) m m 4 1 (N.map vB)) F))) (hs:fM B w0 F A n l) (hN:N.length=m) (hm:m≤10000000) (hl:sU m l) :
  Calls Tryz.prog 96 #[.slice A n c,.pointer (some ⟨bn,0,none⟩)] w fun e w'=>e=.returned (.tuple #[])∧St B w0 w' (star (pt bn 84 [.slice (some ⟨nb,0,none⟩) m m]) (star (sl (some nb) m m 4 1 ((p8 N l).map vB)) F)):=by
 have hrd:=hs w (star (pt bn 84 [.slice (some ⟨nb,0,none⟩) m m]) (sl (some nb) m m 4 1 (N.map vB))) (h.aB (by ac_rfl));have hlen:=hrd.len;have hsm:=hrd.small;have H:=zH h;have HS:=zH hs;have vR:=zH hN;have HL:=zH hl;have HLEN:=zH hlen;clear h hs hN hl hrd hlen
 go_enter Tryz.func96,Tryz.ntmps96
 go_wp2
 go_loopg [7] n (fun g s7 wr=>∃ (k:Nat) (N2:List Bool),s7=.int .i64 k∧k≤n∧Hid (g=n-k)∧Hid (N2.length=m)∧Hid (St B w0 wr (star (pt bn 84 [.slice (some ⟨nb,0,none⟩) m m]) (star (sl (some nb) m m 4 1 (N2.map vB)) F)))∧Hid (p8 N2 (l.drop k)=p8 N l))
 case atStart=>exact⟨0,N,rfl,Nat.zero_le _,rfl,vR.out,H.out,rfl⟩
 case round =>
  obtain⟨k,N2,rfl,hkn,hg,Qq,H1,HE⟩:=hrel
  by_cases hkl:k<n
  ·have e1:decide ((k:Int)<(n:Int))=true:=by simp;omega
   have hrd:=HS.out wr (star (pt bn 84 [.slice (some ⟨nb,0,none⟩) m m]) (sl (some nb) m m 4 1 (N2.map vB))) (H1.out.aB (by ac_rfl));obtain⟨b,o,rfl,hc⟩:=hrd.cells (by omega);have hkx:k<l.length:=by rw[HLEN.out];exact hkl
   obtain⟨x,hx⟩:∃ x,gi l k=x:=⟨_,rfl⟩;have k3:=hc k hkl;rw[hx] at k3;have hdr:l.drop k=x :: l.drop (k+1):=by rw[←hx,dh _ _ hkx];exact List.drop_eq_getElem_cons hkx
   have hE:=HE.out;rw[hdr] at hE;have hE2:p8 (if x< -1 then N2.set (-2-x).toNat true else N2) (l.drop (k+1))=p8 N l:=hE
   have hxm:x∈l:=by rw[←hx,dh _ _ hkx];exact List.getElem_mem hkx
   have p0:(0:Int)≤(k:Int):=by omega
   have p1:(k:Int)<(n:Int):=by omega
   by_cases hx1:x< -1
   ·have e2:decide (x< -1)=true:=by simpa using hx1
    rw[if_pos hx1] at hE2;have hyl:=HL.out x hxm hx1;obtain⟨y,hy⟩:∃ y,(-2-x).toNat=y:=⟨_,rfl⟩;rw[hy] at hE2 hyl;have hyx:-2-x=(y:Int):=by omega
    have Yj:=zH hE2;have c1:=H1.out.aG 0;simp only[List.getElem?_cons_zero] at c1;have y0:(0:Int)≤(y:Int):=by omega
    have y1:(y:Int)<(m:Int):=by omega
    have H2:=zH (H1.out.aB (show _=star (sl (some nb) m m 4 1 (N2.map vB)) (star (pt bn 84 [.slice (some ⟨nb,0,none⟩) m m]) F) by ac_rfl));have f2:=H2.out.bZ y;have hyi:y<(N2.map vB).length:=by rw[List.length_map,Qq.out];exact hyl
    clear hc hx hdr hE hE2 hrd HE hxm hkx hy
    go_wp2_with (refine mF rfl 4 _ _ rfl Tryz.VF H2.out y (.bool true) rfl rfl rfl hyi ?_;intro w3 h3;have H3:=zH h3;clear h3)
    go_roundg (n-(k+1))
    case measure=>have:=hg.out;omega
    case rel=>exact⟨k+1,N2.set y true,by go_num,by omega,rfl,zH (by rw[List.length_set];exact Qq.out),zH (H3.out.aB (by rw[List.map_set];unfold vB;ac_rfl)),Yj⟩
   ·have e2:decide (x< -1)=false:=by simpa using hx1
    rw[if_neg hx1] at hE2;have Yj:=zH hE2;clear hc hx hdr hE hE2 hrd HE hxm hkx
    go_wp2
    go_roundg (n-(k+1))
    case measure=>have:=hg.out;omega
    case rel=>exact⟨k+1,N2,by go_num,by omega,rfl,Qq,H1,Yj⟩
  ·obtain rfl:k=n:=by omega
   have e1:decide ((k:Int)<(k:Int))=false:=by simp
   have hE:=HE.out;rw[List.drop_of_length_le (by rw[HLEN.out];exact Nat.le_refl _)] at hE;have hE2:N2=p8 N l:=hE;have HE2:=zH hE2;clear hE hE2
   go_wp2
   go_end0
   exact⟨rfl,by rw[←HE2.out];exact H1.out⟩
end
theorem Tryz.NT:(Tryz.prog.info? 3).map (·.size)=some 1:=by kernel_rfl
theorem Tryz.RQ:(Tryz.prog.info? 84).map (·.size)=some 1:=by kernel_rfl
theorem Tryz.VH:(Tryz.prog.info? 27).map (·.size)=some 1:=by kernel_rfl
theorem Tryz.RS:(Tryz.prog.info? 73).map (·.size)=some 1:=by kernel_rfl
def jU (oa:Option Nat) (oc ol:Nat) (W:vk) (bu bo nb m:Nat) (now:List Int) (F:HP):HP :=
 star (bR 106 oa oc W) (star (pt bu 73 [.slice (oa.map fun b=>⟨b,0,none⟩) ol oc]) (star (pt bo 27 [.slice (some ⟨nb,0,none⟩) m m]) (star (sl (some nb) m m 3 1 (ints now)) F)))
theorem igN {xs:List Int} {i:Nat} (h:i<xs.length):(ints xs)[i]?=some (.int .i64 (gi xs i)):=by
 unfold ints;rw[List.getElem?_map,List.getElem?_eq_getElem h,dh _ _ h];rfl
theorem isN (xs:List Int) (i:Nat) (v:Int):ints (xs.set i v)=(ints xs).set i (.int .i64 v):=by unfold ints;rw[List.map_set]
theorem Ay (xs:List Int):(ints xs).length=xs.length:=by unfold ints;simp
theorem VI {now l:List Int} {k:Nat} (h:k<l.length):kS now (l.take k)++l.drop k=(kS now (l.take k)++(gi l k) :: l.drop (k+1)):=by
 rw[dh _ _ h,←List.drop_eq_getElem_cons h]
theorem VJ {now l:List Int} {k:Nat} (h:k<l.length):kS now (l.take (k+1))=kS now (l.take k)++[if gi l k< -1 then gi now (-2-gi l k).toNat else gi l k]:=by
 unfold kS;rw[List.take_succ_eq_append_getElem h,List.map_append,dh _ _ h];rfl
theorem NU (now l:List Int):(kS now l).length=l.length:=by unfold kS;simp
theorem set_mid {xs ys:List Int} {k:Nat} {x v:Int} (h:xs.length=k):(xs++x :: ys).set k v=xs++v :: ys:=by
 subst h;rw[List.set_append_right _ _ (Nat.le_refl _)];simp
theorem ae2 {xs ys:List Int} {k:Nat} {x:Int} (h:xs.length=k):gi (xs++x :: ys) k=x:=by
 subst h;unfold gi;rw[List.getD_eq_getElem?_getD,List.getElem?_append_right (Nat.le_refl _)];simp
section
variable {B:Nat} {w0 w:World} {F:HP}
theorem NV (A:Option Addr) (n c bu bo nb m ol:Nat) (l now:List Int) (oa:Option Nat) (oc:Nat) (W:vk) (h:St B w0 w (jU oa oc ol W bu bo nb m now F)) (hs:fM B w0 F A n l) (hN:now.length=m) (hm:m≤10000000) (hn:n≤1000000) (hW:W.length=ol) (hol:ol≤10000000) (hl:sU m l) :
  Calls Tryz.prog 97 #[.slice A n c,.pointer (some ⟨bo,0,none⟩),.pointer (some ⟨bu,0,none⟩)] w fun e w'=>e=.returned (.tuple #[])∧∃ (oa':Option Nat) (oc':Nat) (ka:Option Nat) (kc:Nat),St B w0 w' (jU oa' oc' (ol+1) (W++[(ka,kc,kS now l)]) bu bo nb m now F):=by
 have hrd:=hs w (star (bR 106 oa oc W) (star (pt bu 73 [.slice (oa.map fun b=>⟨b,0,none⟩) ol oc]) (star (pt bo 27 [.slice (some ⟨nb,0,none⟩) m m]) (sl (some nb) m m 3 1 (ints now))))) (h.aB (by unfold jU;ac_rfl));have hlen:=hrd.len;have hcl:=qZ A n c l w hrd hn;rw[hlen] at hcl;have H:=zH h;have jW:=zH hcl;have vR:=zH hN;have HL:=zH hl;have HLEN:=zH hlen;have jK:=zH hW;clear h hs hN hl hrd hlen hcl hW
 go_enter Tryz.func97,Tryz.ntmps97
 go_wp2_with fail
 refine jW.out.mono ?_
 rintro e w1 ⟨fa,fc,rfl,k1⟩
 have h2:St B w0 w1 (star (sl fa n fc 3 1 (ints l)) (jU oa oc ol W bu bo nb m now F)):=(H.out.nest k1).aB (by unfold bO;rw[HLEN.out,j5]);have H2:=zH h2;clear k1 h2 jW;unfold iB;obtain⟨FA,hFA⟩:∃ A,(fa.map fun b=>(⟨b,0,none⟩:Addr))=A:=⟨_,rfl⟩;rw[hFA];have HFA:=zH hFA;clear hFA
 go_wp2
 go_loopg [11] n (fun g s11 wr=>∃ (k:Nat),s11=.int .i64 k∧k≤n∧Hid (g=n-k)∧Hid (St B w0 wr (star (sl fa n fc 3 1 (ints (kS now (l.take k)++l.drop k))) (jU oa oc ol W bu bo nb m now F))))
 case atStart=>exact⟨0,rfl,Nat.zero_le _,rfl,H2.out⟩
 case round =>
  clear H2;obtain⟨k,rfl,hkn,hg,H1⟩:=hrel
  by_cases hkl:k<n
  ·have e1:decide ((k:Int)<(n:Int))=true:=by simp;omega
   have hkx:k<l.length:=by rw[HLEN.out];exact hkl
   obtain⟨x,hx⟩:∃ x,gi l k=x:=⟨_,rfl⟩;have hsp:=VI (now:=now) hkx;have hnx:=VJ (now:=now) hkx;rw[hx] at hsp hnx;have htl:(kS now (l.take k)).length=k:=by rw[NU,List.length_take];omega
   have h1:=H1.out;rw[hsp] at h1
   obtain⟨fb,hfb⟩:∃ b,fa=some b:=by
    cases fa with
    | none=>have:=(h1.sat.aR.2.2.2.1 rfl).1;omega
    | some b=>exact⟨b,rfl⟩
   subst hfb;obtain rfl:FA=some ⟨fb,0,none⟩:=HFA.out.symm;have hil:k<(ints (kS now (l.take k)++x :: l.drop (k+1))).length:=by rw[Ay,List.length_append,htl];simp
   have d1:wr.cell? ⟨fb,k,none⟩=some (.int .i64 x):=by
    rw[h1.aW k hil,igN (by rw[Ay] at hil;exact hil),ae2 htl]
   have hxm:x∈l:=by rw[←hx,dh _ _ hkx];exact List.getElem_mem hkx
   have p0:(0:Int)≤(k:Int):=by omega
   have p1:(k:Int)<(n:Int):=by omega
   by_cases hx1:x< -1
   ·have e2:decide (x< -1)=true:=by simpa using hx1
    rw[if_pos hx1] at hnx;have hyl:=HL.out x hxm hx1;obtain⟨y,hy⟩:∃ y,(-2-x).toNat=y:=⟨_,rfl⟩;rw[hy] at hnx hyl;have hyx:-2-x=(y:Int):=by omega
    have y0:(0:Int)≤(y:Int):=by omega
    have y1:(y:Int)<(m:Int):=by omega
    obtain⟨z,hz⟩:∃ z,gi now y=z:=⟨_,rfl⟩;rw[hz] at hnx;have h4:St B w0 wr (star (pt bo 27 [.slice (some ⟨nb,0,none⟩) m m]) (star (sl (some nb) m m 3 1 (ints now)) (star (sl (some fb) n fc 3 1 (ints (kS now (l.take k)++x :: l.drop (k+1)))) (star (bR 106 oa oc W) (star (pt bu 73 [.slice (oa.map fun b=>⟨b,0,none⟩) ol oc]) F))))):=h1.aB (by unfold jU;ac_rfl);have c1:=h4.aG 0;simp only[List.getElem?_cons_zero] at c1;have h5:=h4.aB (show _=star (sl (some nb) m m 3 1 (ints now)) (star (pt bo 27 [.slice (some ⟨nb,0,none⟩) m m]) (star (sl (some fb) n fc 3 1 (ints (kS now (l.take k)++x :: l.drop (k+1)))) (star (bR 106 oa oc W) (star (pt bu 73 [.slice (oa.map fun b=>⟨b,0,none⟩) ol oc]) F)))) by ac_rfl)
    have c2:wr.cell? ⟨nb,y,none⟩=some (.int .i64 z):=by
     rw[h5.aW y (by rw[Ay,vR.out];exact hyl),igN (by rw[vR.out];exact hyl),hz]
    have H2:=zH h1
    have hfin:(ints (kS now (l.take k)++x :: l.drop (k+1))).set k (.int .i64 z)=ints (kS now (l.take (k+1))++l.drop (k+1)):=by
     rw[←isN,set_mid htl,hnx,List.append_assoc];rfl
    have qA:=zH hfin;clear hsp hnx htl h1 hx hxm hy hz h4 h5 hfin hkx
    go_wp2_with (refine mF rfl 3 _ _ rfl Tryz.NT H2.out k (.int .i64 z) rfl rfl rfl hil ?_;intro w3 h3;have H3:=zH h3;clear h3)
    go_roundg (n-(k+1))
    case measure=>have:=hg.out;omega
    case rel=>exact⟨k+1,by go_num,by omega,rfl,zH (by rw[←qA.out];exact H3.out)⟩
   ·have e2:decide (x< -1)=false:=by simpa using hx1
    rw[if_neg hx1] at hnx
    have hfin:St B w0 wr (star (sl (some fb) n fc 3 1 (ints (kS now (l.take (k+1))++l.drop (k+1)))) (jU oa oc ol W bu bo nb m now F)):=by
     rw[hnx,List.append_assoc];exact h1
    have qA:=zH hfin;clear hsp hnx htl h1 hx hxm hfin hkx
    go_wp2
    go_roundg (n-(k+1))
    case measure=>have:=hg.out;omega
    case rel=>exact⟨k+1,by go_num,by omega,rfl,qA⟩
  ·obtain rfl:k=n:=by omega
   have e1:decide ((k:Int)<(k:Int))=false:=by simp
   have h1:=H1.out;rw[List.take_of_length_le (by rw[HLEN.out];exact Nat.le_refl _),List.drop_of_length_le (by rw[HLEN.out];exact Nat.le_refl _),List.append_nil] at h1;have hnl:(kS now l).length=k:=by rw[NU,HLEN.out]
   have h4:=jg (h1.aB (show _=star (bR 106 oa oc W) (star (pt bu 73 [.slice (oa.map fun b=>⟨b,0,none⟩) ol oc]) (star (sl fa k fc 3 1 (ints (kS now l))) (star (pt bo 27 [.slice (some ⟨nb,0,none⟩) m m]) (star (sl (some nb) m m 3 1 (ints now)) F)))) by unfold jU;ac_rfl)) jK.out
   have c1:wr.cell? ⟨bu,0,none⟩=some (.slice (oa.map fun b=>⟨b,0,none⟩) ol oc):=by
    have:=(h4.aB (show _=star (pt bu 73 [.slice (oa.map fun b=>⟨b,0,none⟩) ol oc]) (star (sl oa ol oc 106 1 (JO W)) (star (stars (JQ W)) (star (sl fa k fc 3 1 (ints (kS now l))) (star (pt bo 27 [.slice (some ⟨nb,0,none⟩) m m]) (star (sl (some nb) m m 3 1 (ints now)) F))))) by ac_rfl)).aG 0;simpa using this
   have H4:=zH h4;have HNK:=zH hnl;clear h1 hnl h4 H1;have hbv:St B w0 wr (star (sl oa ol oc 106 1 (JO W)) (star (pt bu 73 [.slice (oa.map fun b=>⟨b,0,none⟩) ol oc]) (star (stars (JQ W)) (star (sl fa k fc 3 1 (ints (kS now l))) (star (pt bo 27 [.slice (some ⟨nb,0,none⟩) m m]) (star (sl (some nb) m m 3 1 (ints now)) F)))))):=H4.out.aB (by ac_rfl);have Ic:=zH hbv;clear hbv H4
   go_wp2_with (first
    | (at_builtin;refine aO rfl _ _ 73 106 (.agg #[.slice none 0 0]) 24 rfl Tryz.underlying73 Tryz.NP rfl Ic.out rfl (.slice FA k fc) rfl rfl (by omega) (by simp only[maxLen];omega) ?_;intro b' c' w4 h5;have H5:=zH (h5.aB (show _=star (pt bu 73 [.slice (oa.map fun b=>⟨b,0,none⟩) ol oc]) (star (sl (some b') (ol+1) c' 106 1 (JO W++[.slice FA k fc])) (star (stars (JQ W)) (star (sl fa k fc 3 1 (ints (kS now l))) (star (pt bo 27 [.slice (some ⟨nb,0,none⟩) m m]) (star (sl (some nb) m m 3 1 (ints now)) F))))) by ac_rfl));clear h5)
    | (refine gU rfl 73 _ _ rfl Tryz.RS H5.out 0 (.slice (some ⟨b',0,none⟩) (ol+1) c') rfl rfl rfl (Nat.zero_lt_one) ?_;intro w5 h6;have H6:=zH h6;clear h6))
   go_end0
   refine⟨rfl,some b',c',fa,fc,?_⟩;have h7:=H6.out;rw[←HFA.out] at h7;have h8:=mh (e:=106) (W:=W) (ka:=fa) (kc:=fc) (l:=kS now l) (b':=b') (c':=c') (F:=star (pt bu 73 [.slice (some ⟨b',0,none⟩) (ol+1) c']) (star (pt bo 27 [.slice (some ⟨nb,0,none⟩) m m]) (star (sl (some nb) m m 3 1 (ints now)) F))) jK.out (h7.aB (by unfold bO;rw[HNK.out];simp only[List.set_cons_zero];ac_rfl));exact h8
end
end Go.Proofs.YthbbmdnfkkffjaaGreat

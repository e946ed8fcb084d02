/-
  What Trace and SatHands need of texts whose part of it the base left out: the same laws under other names.
-/
import Derived.Test.YthbbmdnfkkffjaaGreatY21
import Derived.Test.YthbbmdnfkkffjaaGreatY37
import Derived.Test.YthbbmdnfkkffjaaGreatY03
import Derived.Test.YthbbmdnfkkffjaaGreatY44
import Derived.Test.YthbbmdnfkkffjaaGreatY01
set_option maxHeartbeats 8000000
set_option maxRecDepth 100000
namespace Go.Proofs.YthbbmdnfkkffjaaGreat
open Go.RowKit Go.Proofs.aC Go.Proofs.aA
open Go.Proofs.au hiding SM
theorem pK.drawnH {w w':World} {A:Option Addr} {n:Nat} {xs:List Int} (h:pK w A n xs) (d:bJ w w'):pK w' A n xs:=h.heap d.heap
theorem bytes_anyH (A A':Option Addr) (n cap m cap':Nat) (xs ys:List Int) (w:World) (hr:pK w A n xs) (hr':pK w A' m ys) :
  Calls Tryz.prog 35 #[.slice A n cap,.slice A' m cap'] w fun e w'=>e=.returned (.bool (Wd xs ys))∧bJ w w':=by
 have hs:=hr.small;have hs':=hr'.small
 by_cases hnm:n=m
 ·subst hnm
  go_enter Tryz.func35,Tryz.ntmps35
  go_wp2
  go_loopw [5] (fun i wr=>∃ k:Nat,k≤n∧i=.int .i64 k∧xs.take k=ys.take k∧bJ w wr) (fun i _=>n-(intOf i).toNat)
  case atStart=>exact⟨0,Nat.zero_le _,rfl,by simp,bJ.refl w⟩
  case round =>
   obtain⟨k,hk,rfl,hx,hD⟩:=hrel
   by_cases hlt:k<n
   ·obtain⟨b,o,rfl,hc⟩:=(pK.drawnH hr hD).cells (by omega);obtain⟨b',o',rfl,hc'⟩:=(pK.drawnH hr' hD).cells (by omega);have hck:=hc k hlt;have aie:=hc' k hlt;have h0:(0:Int)≤(k:Int):=by omega
    have h1:(k:Int)<(n:Int):=by omega
    have HX:=zH hx;clear hc hc' hx
    cases hd:gi xs k != gi ys k
    all_goals
     go_wp2
     go_quiet (fail)
     go_wp2
    ·go_roundw
     case rel=>exact⟨k+1,by omega,by go_num,by rw[gV xs k (by have:=hr.len;omega),gV ys k (by have:=hr'.len;omega),HX.out,(by simpa using hd:gi xs k=gi ys k)],hD.step _⟩
     case measure=>simp[intOf];omega
    ·go_ret
     exact⟨fV (adA (k:=k) (by have:=hr.len;omega) (by rw[hr.len,hr'.len]) (by simpa using hd)).symm,hD.step _⟩
   ·have HX:=zH hx;clear hx
    go_wp2
    go_ret
    refine⟨fV (aaF (by rw[hr.len,hr'.len]) ?_).symm,hD⟩;have:=HX.out;rw[hr.len,show n=k by omega];exact this
 ·have hd:((n:Int) != (m:Int))=true:=by simp;omega
  go_enter Tryz.func35,Tryz.ntmps35
  go_wp2
  go_ret
  exact⟨fV (aaE (by rw[hr.len,hr'.len];exact hnm)).symm,bJ.refl w⟩
theorem spoil_anyH (a:Option Nat) (c:Nat) (xs:List Int) (B:Nat) (w0 w:World) (F:HP) (hst:St B w0 w (star (bO 3 a c xs) F)) (hs:xs.length≤140737488355328) :
  Calls Tryz.prog 34 #[iB a xs.length c] w fun e w'=>e=.returned (.tuple #[])∧∃ ys,ys.length=xs.length∧St B w0 w' (star (bO 3 a c ys) F):=by
 obtain⟨n,hn⟩:∃ n,xs.length=n:=⟨_,rfl⟩;have HN:=zH hn;rw[hn] at hs ⊢;clear hn
 go_enter Tryz.func34,Tryz.ntmps34
 unfold iB
 go_wp2
 go_loopw [2] (fun i wr=>∃ k:Nat,k≤n∧i=.int .i64 k∧∃ ys:List Int,Hid (ys.length=n)∧St B w0 wr (star (bO 3 a c ys) F)) (fun i _=>n-(intOf i).toNat)
 case atStart=>exact⟨0,Nat.zero_le _,rfl,xs,HN.out,hst⟩
 case round =>
  obtain⟨k,hk,rfl,ys,hy,hst⟩:=hrel
  by_cases hlt:k<n
  ·obtain⟨_,_,_,hnone,_⟩:=hst.sat.aR
   cases a with
   | none=>have:=hnone rfl;have:=hy.out;omega
   | some b =>
    have hc:wr.cell? ⟨b,k,none⟩=some (.int .i64 (gi ys k)):=by
     rw[St.aW (h:=hst) k (by have:=hy.out;simp;omega),iZ _ _ (by have:=hy.out;omega)]
    have hf:wr.frozen? ⟨b,k,none⟩=false:=St.bZ (h:=hst) k;clear hnone
    go_wp2
    go_roundw
    case rel =>
     refine⟨k+1,by omega,by go_num,ys.set k (-7777),(by rw[List.length_set];exact hy.out:_=_),?_⟩;have:=St.fH hst k (.int .i64 (-7777)) (by have:=hy.out;simp;omega);unfold bO;rw[←ints_set,List.length_set];exact this
    case measure=>simp[intOf];omega
  ·go_wp2
   go_end0
   exact⟨rfl,ys,hy.out,hst⟩
section
variable {B:Nat} {w0 w:World} {p:Nat} {M:MM} {F:HP}
theorem At.b_coreH (h:At B w0 w p M F) (hi:0<M.core.xs.length):∃ b,M.core.a=some b:=by
 obtain⟨_,_,_,hn,_⟩:=h.Wx.sat.aR
 cases e:M.core.a with
 | none=>have:=(hn e).1;omega
 | some b=>exact⟨b,rfl⟩
theorem At.r_coreH (h:At B w0 w p M F) {b i:Nat} (hb:M.core.a=some b) {x:Int} (hi:M.core.xs[i]?=some x):w.cell? ⟨b,i,none⟩=some (vI x)∧w.frozen? ⟨b,i,none⟩=false:=by
 have h1:=h.Wx;rw[hb] at h1;exact⟨by rw[h1.aW i (by rw[List.length_map];exact (List.getElem?_eq_some_iff.1 hi).1),List.getElem?_map,hi];rfl,h1.bZ i⟩
end
end Go.Proofs.YthbbmdnfkkffjaaGreat

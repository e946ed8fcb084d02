/-
  SatHands: two solvers in one state, and what each hands out, as frames.
-/
import Derived.Test.YthbbmdnfkkffjaaGreatYTr3
import Derived.Test.YthbbmdnfkkffjaaGreatYTwo
import Derived.Test.YthbbmdnfkkffjaaGreatY44
import Derived.Test.YthbbmdnfkkffjaaGreatY01
set_option maxHeartbeats 8000000
set_option maxRecDepth 100000
namespace Go.Proofs.YthbbmdnfkkffjaaGreat
open Go.RowKit Go.Proofs.aC Go.Proofs.aA
open Go.Proofs.au hiding SM
def BothI (B:Nat) (w0 w:World) (q r:Nat) (S:aA.SM) (F:HP):Prop:=bL B w0 w q S (star (Um r S) F)
def trB (S:aA.SM):List Int:=if (trG S).2=0 then (trG S).1 else []
theorem encF_len (l:List (List Int)) (h:8+4*l.length+4*(l.map List.length).sum≤4194304):(Di l).1.length≤4194304:=by
 unfold Di
 split
 ·show (Aw l).length≤_;rw[CQ];exact h
 ·exact Nat.zero_le _
theorem trG_len (S:aA.SM):(trG S).1.length≤4194304:=by
 unfold trG
 by_cases h1:S.last=[]∨S.told≠2∨S.core≠[]
 ·rw[if_pos h1];exact Nat.zero_le _
 ·rw[if_neg h1]
  by_cases h2:4194304<8+4*(nk S.steps S.last S.given.length).length+4*((nk S.steps S.last S.given.length).map List.length).sum
  ·rw[if_pos h2]
   by_cases h3:(Di (nk S.steps S.last S.given.length)).2=0
   ·rw[if_pos h3];exact Nat.zero_le _
   ·rw[if_neg h3];exact Nat.zero_le _
  ·rw[if_neg h2];exact encF_len _ (by omega)
theorem trB_len (S:aA.SM):(trB S).length≤4194304:=by
 unfold trB
 by_cases h:(trG S).2=0
 ·rw[if_pos h];exact trG_len S
 ·rw[if_neg h];exact Nat.zero_le _
structure HaS (K:Nat) (S:aA.SM):Prop where
 zs:Zs K S
 pf:PfZ S
 core:S.core.length≤500∧∀ x∈S.core,x.natAbs≤1000000
 lrn:S.learned.length≤2000∧∀ c∈S.learned,c.length≤65537
theorem HaS.giv {K:Nat} {S:aA.SM} (h:HaS K S):S.given.length≤1000000∧∀ c∈S.given,c.length≤1000000:=by
 have hw:=h.zs.ze.ex.words;have hg:=h.zs.ze.gw;refine⟨by omega,fun c hc=>?_⟩;obtain⟨h1,h2⟩:=h.zs.ze.gs c hc
 have:=jd (n:=S.value.length) h1 fun v hv=>by
  obtain⟨x,hx,rfl⟩:=List.mem_map.1 hv;exact (h2 x hx).2.2
 rw[List.length_map] at this;have:=h.zs.vs;omega
theorem HaS.new:HaS 0 (aA.SM.new 262144 2000):=by
 have k:=(BL 262144 2000).1;have e1:(aA.SM.new 262144 2000).core=[]:=rfl;have e2:(aA.SM.new 262144 2000).learned=[]:=rfl;refine⟨k,PfZ.new _ _,⟨?_,fun x hx=>?_⟩,⟨?_,fun c hc=>?_⟩⟩
 ·rw[e1];exact Nat.zero_le _
 ·rw[e1] at hx;cases hx
 ·rw[e2];exact Nat.zero_le _
 ·rw[e2] at hc;cases hc
theorem HaS.add {K:Nat} {S:aA.SM} (h:HaS K S) (hk:K<1000) (xs:List Int):HaS (K+1) (fU S xs).1:=by
 obtain⟨_,a⟩:=rF h.zs xs;exact⟨a.zs.up (by omega),h.pf.fU xs,by rw[a.rest.2.2.2];exact h.core,by rw[a.rest.1];exact h.lrn⟩
theorem HaS.solve {K:Nat} {S:aA.SM} (h:HaS K S) (hk:K<1000) {xs:List Int} (hl:xs.length≤500):HaS (K+1) (bK S xs).1:=by
 have hp:=h.pf.bK h.zs (by omega) (xs:=xs) (by omega)
 by_cases ha:xs.all fC=true
 ·obtain⟨_,a2,a3⟩:=fO h.zs (by omega) (xs:=xs) (by omega) ha
  have hsub:(bK S xs).1.core.Sublist xs:=by
   rcases a3.out with ⟨_,_,k,_⟩ | ⟨_,_,_,k,_⟩ | ⟨_,k,_⟩
   ·rw[k];exact List.nil_sublist _
   ·exact k
   ·rw[k];exact List.nil_sublist _
  refine⟨a2,hp,⟨by have:=hsub.length_le;omega,fun x hx=>?_⟩,a3.short a2⟩;have:=bD.1 (List.all_eq_true.1 ha x (hsub.subset hx));omega
 ·have e:(bK S xs).1=S:=by unfold bK;rw[if_neg ha]
  rw[e];exact⟨h.zs.up (by omega),h.pf,h.core,h.lrn⟩
section
variable {B:Nat} {w0 w:World} {q r:Nat} {S:aA.SM} {F:HP}
theorem BothI.swap (h:BothI B w0 w q r S F):BothI B w0 w r q S F:=bL.other h
theorem BothI.frame {G:HP} (h:BothI B w0 w q r S F) (e:F=G):BothI B w0 w q r S G:=e▸h
theorem BothI.below (h:BothI B w0 w q r S F):Below B w0 w:=bL.below h
theorem BothI.drawn {w':World} (h:BothI B w0 w q r S F) (d:bJ w w'):BothI B w0 w' q r S F:=bL.drawn h d
theorem BothI.st (h:BothI B w0 w q r S F):St B w0 w (star F (star (Um q S) (Um r S))):=(Hr.1 h).aB (by ac_rfl)
theorem BothI.ofSt (h:St B w0 w (star F (star (Um q S) (Um r S)))):BothI B w0 w q r S F:=Hr.2 (h.aB (by ac_rfl))
theorem BothI.dropH {P:HP} (h:BothI B w0 w q r S (star P F)):BothI B w0 w q r S F:=bL.drop (bL.frame h (by ac_rfl))
theorem BothI.only (h:BothI B w0 w q r S F):BothI B w0 w q r S emp:=bL.drop (P:=F) (bL.frame h (by rw[aQ];exact j5 _ _))
theorem BothI.rdI {t:TypeId} {a:Option Nat} {c:Nat} {xs:List Int} (h:BothI B w0 w q r S (star (bO t a c xs) F)) (hs:xs.length≤1000000):Rd w (a.map fun b=>⟨b,0,none⟩) xs.length xs :=
 bL.rdI (bL.frame h (show _=star (bO t a c xs) (star (Um r S) F) by ac_rfl)) hs
theorem BothI.rdY {t:TypeId} {a:Option Nat} {c:Nat} {xs:List Int} (h:BothI B w0 w q r S (star (Ba t a c xs) F)) (hs:xs.length≤140737488355328):pK w (a.map fun b=>⟨b,0,none⟩) xs.length xs :=
 St.rdB (h.st.aB (gJ _ _ _)) hs
theorem BothI.rdW {e:TypeId} {a:Option Nat} {c:Nat} {W:vk} (h:BothI B w0 w q r S (star (bR e a c W) F)) (hl:∀ x∈W,x.2.2.length≤140737488355328) (hn:W.length≤140737488355328):um w (a.map fun b=>⟨b,0,none⟩) W.length (W.map fun x=>x.2.2) :=
 pF (h.st.aB (gJ _ _ _)) hl hn
theorem BothI.core (h:BothI B w0 w q r S F) (n:Nat) (hn:S.core.length=n) (hl:n≤500) :
  Calls Tryz.prog 22 #[.pointer (some ⟨q,0,none⟩)] w fun e w'=>∃ a c',e=.returned (.slice (Option.map (fun b=>(⟨b,0,none⟩:Addr)) a) n c')∧BothI B w0 w' q r S (star (bO 3 a c' S.core) F):=by
 refine (bL.PI h S.core n rfl hn (by omega)).mono ?_
 rintro e w' ⟨a,c',rfl,h2⟩
 exact⟨a,c',rfl,bL.frame h2 (by ac_rfl)⟩
theorem BothI.coreR (h:BothI B w0 w q r S F) (n:Nat) (hn:S.core.length=n) (hl:n≤500) :
  Calls Tryz.prog 22 #[.pointer (some ⟨r,0,none⟩)] w fun e w'=>∃ a c',e=.returned (.slice (Option.map (fun b=>(⟨b,0,none⟩:Addr)) a) n c')∧BothI B w0 w' q r S (star (bO 3 a c' S.core) F):=by
 refine (h.swap.core n hn hl).mono ?_
 rintro e w' ⟨a,c',rfl,h2⟩
 exact⟨a,c',rfl,h2.swap⟩
theorem BothI.trace {K:Nat} (h:BothI B w0 w q r S F) (hs:HaS K S) (U:List Int) (hU:trB S=U) (n:Nat) (hn:U.length=n) :
  Calls Tryz.prog 31 #[.pointer (some ⟨q,0,none⟩)] w fun e w'=>∃ a c',e=.returned (.tuple #[.slice (Option.map (fun b=>(⟨b,0,none⟩:Addr)) a) n c',.int .i64 (trG S).2])∧BothI B w0 w' q r S (star (Ba 5 a c' U) F):=by
 subst hU hn;refine (trace_gen h (hs.pf.nd hs.zs) hs.giv.1 hs.core.2).mono ?_
 rintro e w' ⟨k1,k2⟩
 by_cases h0:(trG S).2=0
 ·obtain⟨a,c,rfl,h2,_⟩:=k1 h0;have e1:trB S=(trG S).1:=by unfold trB;rw[if_pos h0]
  rw[e1,h0];exact⟨a,c,rfl,bL.frame h2 (by ac_rfl)⟩
 ·obtain⟨rfl,h2⟩:=k2 h0;have e1:trB S=[]:=by unfold trB;rw[if_neg h0]
  rw[e1];refine⟨none,0,rfl,bL.frame h2 ?_⟩;show star (Um r S) F=star (Um r S) (star (sl none 0 0 5 1 []) F);rw[Li,j5 emp,aQ]
theorem BothI.traceR {K:Nat} (h:BothI B w0 w q r S F) (hs:HaS K S) (U:List Int) (hU:trB S=U) (n:Nat) (hn:U.length=n) :
  Calls Tryz.prog 31 #[.pointer (some ⟨r,0,none⟩)] w fun e w'=>∃ a c',e=.returned (.tuple #[.slice (Option.map (fun b=>(⟨b,0,none⟩:Addr)) a) n c',.int .i64 (trG S).2])∧BothI B w0 w' q r S (star (Ba 5 a c' U) F):=by
 refine (h.swap.trace hs U hU n hn).mono ?_
 rintro e w' ⟨a,c',rfl,h2⟩
 exact⟨a,c',rfl,h2.swap⟩
def RowsOf (xss:List (List Int)) (n:Nat) (W:vk):Prop:=W.map (fun x=>x.2.2)=xss∧W.length=n
theorem BothI.learned {K:Nat} (h:BothI B w0 w q r S F) (hs:HaS K S) (n:Nat) (hn:S.learned.length=n) :
  Calls Tryz.prog 28 #[.pointer (some ⟨q,0,none⟩)] w fun e w'=>∃ (a:Option Nat) (c:Nat) (W:vk),e=.returned (.slice (Option.map (fun b=>(⟨b,0,none⟩:Addr)) a) n c)∧BothI B w0 w' q r S (star (bR 27 a c W) F)∧RowsOf S.learned n W:=by
 subst hn;refine (gM h (fun c hc=>by have:=hs.lrn.2 c hc;omega) (by have:=hs.lrn.1;omega)).mono ?_
 rintro e w' ⟨a,c,W,rfl,h1,h2⟩
 have hl:W.length=S.learned.length:=by rw[←h2,List.length_map]
 rw[aQ] at h1;exact⟨a,c,W,by rw[hl],bL.frame (bL.nest h h1) (by ac_rfl),h2,hl⟩
theorem BothI.learnedR {K:Nat} (h:BothI B w0 w q r S F) (hs:HaS K S) (n:Nat) (hn:S.learned.length=n) :
  Calls Tryz.prog 28 #[.pointer (some ⟨r,0,none⟩)] w fun e w'=>∃ (a:Option Nat) (c:Nat) (W:vk),e=.returned (.slice (Option.map (fun b=>(⟨b,0,none⟩:Addr)) a) n c)∧BothI B w0 w' q r S (star (bR 27 a c W) F)∧RowsOf S.learned n W:=by
 refine (h.swap.learned hs n hn).mono ?_
 rintro e w' ⟨a,c,W,rfl,h2,h3⟩
 exact⟨a,c,W,rfl,h2.swap,h3⟩
theorem BothI.clauses {K:Nat} (h:BothI B w0 w q r S F) (hs:HaS K S) (n:Nat) (hn:S.given.length=n) :
  Calls Tryz.prog 23 #[.pointer (some ⟨q,0,none⟩)] w fun e w'=>∃ (a:Option Nat) (c:Nat) (W:vk),e=.returned (.slice (Option.map (fun b=>(⟨b,0,none⟩:Addr)) a) n c)∧BothI B w0 w' q r S (star (bR 27 a c W) F)∧RowsOf S.given n W:=by
 subst hn;refine (vo h hs.giv.2 hs.giv.1).mono ?_
 rintro e w' ⟨a,c,W,rfl,h1,h2⟩
 have hl:W.length=S.given.length:=by rw[←h2,List.length_map]
 rw[aQ] at h1;exact⟨a,c,W,by rw[hl],bL.frame (bL.nest h h1) (by ac_rfl),h2,hl⟩
theorem BothI.clausesR {K:Nat} (h:BothI B w0 w q r S F) (hs:HaS K S) (n:Nat) (hn:S.given.length=n) :
  Calls Tryz.prog 23 #[.pointer (some ⟨r,0,none⟩)] w fun e w'=>∃ (a:Option Nat) (c:Nat) (W:vk),e=.returned (.slice (Option.map (fun b=>(⟨b,0,none⟩:Addr)) a) n c)∧BothI B w0 w' q r S (star (bR 27 a c W) F)∧RowsOf S.given n W:=by
 refine (h.swap.clauses hs n hn).mono ?_
 rintro e w' ⟨a,c,W,rfl,h2,h3⟩
 exact⟨a,c,W,rfl,h2.swap,h3⟩
theorem BothI.spoil {a:Option Nat} {c:Nat} {xs:List Int} (h:BothI B w0 w q r S (star (bO 3 a c xs) F)) (n:Nat) (hn:xs.length=n) (hs:n≤1000000) :
  Calls Tryz.prog 34 #[.slice (Option.map (fun b=>(⟨b,0,none⟩:Addr)) a) n c] w fun e w'=>e=.returned (.tuple #[])∧BothI B w0 w' q r S F:=by
 subst hn;refine (spoil_anyH a c xs B w0 w _ (h.st.aB (gJ _ _ _)) (by omega)).mono ?_
 rintro e w' ⟨rfl,ys,_,h2⟩
 exact⟨rfl,BothI.ofSt h2.wH⟩
theorem BothI.nest {w':World} {P:HP} (h:BothI B w0 w q r S F) (k:St w.heap.size w w' P):BothI B w0 w' q r S (star P F):=bL.frame (bL.nest h k) (by ac_rfl)
theorem bL.spoilTop {a:Option Nat} {c:Nat} {xs:List Int} (h:bL B w0 w q S (star (bO 3 a c xs) F)) (n:Nat) (hn:xs.length=n) (hs:n≤1000000) :
  Calls Tryz.prog 34 #[.slice (Option.map (fun b=>(⟨b,0,none⟩:Addr)) a) n c] w fun e w'=>e=.returned (.tuple #[])∧bL B w0 w' q S F:=by
 subst hn;refine (spoil_anyH a c xs B w0 w _ ((Hr.1 h).aB (show _=star (bO 3 a c xs) (star (Um q S) F) by ac_rfl)) (by omega)).mono ?_
 rintro e w' ⟨rfl,ys,_,h2⟩
 exact⟨rfl,Hr.2 h2.wH⟩
theorem BothI.solve1 {K:Nat} {a:Option Nat} {c:Nat} {xs:List Int} (h:BothI B w0 w q r S (star (bO 3 a c xs) F)) (hs:HaS K S) (hk:K<1000) (n:Nat) (hn:xs.length=n) (hl:n≤500) (T:aA.SM) (v er:Int) (hR:bK S xs=(T,v,er)) :
  Calls Tryz.prog 19 #[.pointer (some ⟨q,0,none⟩),.slice (Option.map (fun b=>(⟨b,0,none⟩:Addr)) a) n c] w fun e w'=>e=.returned (.tuple #[.int .i64 v,.int .i64 er])∧bL B w0 w' q T (star (bO 3 a c xs) (star (Um r S) F)):=by
 subst hn;have h1:bL B w0 w q S (star (bO 3 a c xs) (star (Um r S) F)):=bL.frame h (by ac_rfl);refine (jH _ _ _ xs h1 (fM.own _ _ _ _ _ (by omega)) (fun ha=>(fO hs.zs (by omega) (by omega) ha).1)).mono ?_;rw[hR]
 rintro e w' ⟨rfl,h3⟩
 exact⟨rfl,h3⟩
theorem BothI.solve2 {K:Nat} {A:Option Addr} {c:Nat} {xs:List Int} {T:aA.SM} (h:bL B w0 w q T (star (Um r S) F)) (hs:HaS K S) (hk:K<1000) (n:Nat) (hn:xs.length=n) (hl:n≤500) (hr:Rd w0 A n xs) (hB:w0.heap.size≤B) (v er:Int) (hR:bK S xs=(T,v,er)) :
  Calls Tryz.prog 19 #[.pointer (some ⟨r,0,none⟩),.slice A n c] w fun e w'=>e=.returned (.tuple #[.int .i64 v,.int .i64 er])∧BothI B w0 w' q r T F:=by
 subst hn;refine (jH A _ c xs h.other (fM.aii hr hB) (fun ha=>(fO hs.zs (by omega) (by omega) ha).1)).mono ?_;rw[hR]
 rintro e w' ⟨rfl,h3⟩
 exact⟨rfl,BothI.swap h3⟩
def Short (m n:Nat) (W:vk):Prop:=W.length=n∧∀ x∈W,x.2.2.length≤m
theorem RowsOf.short {xss:List (List Int)} {n m:Nat} {W:vk} (h:RowsOf xss n W) (hs:∀ c∈xss,c.length≤m):Short m n W:=by
 refine⟨h.2,fun x hx=>hs _ ?_⟩;rw[←h.1];exact List.mem_map.2 ⟨x,hx,rfl⟩
theorem Short.set {m n:Nat} {W:vk} (h:Short m n W) (k:Nat) (x:Option Nat×Nat×List Int) (hk:W[k]?=some x) (ys:List Int) (hy:ys.length=x.2.2.length):Short m n (W.set k (x.1,x.2.1,ys)):=by
 refine⟨by rw[List.length_set];exact h.1,fun y hy2=>?_⟩;rcases List.mem_or_eq_of_mem_set hy2 with k1 | rfl
 ·exact h.2 y k1
 ·show ys.length≤m;rw[hy];exact h.2 x (List.mem_of_getElem? hk)
theorem Short.get {m n:Nat} {W:vk} (h:Short m n W) {k:Nat} (hk:k<n):∃ x,W[k]?=some x∧x.2.2.length≤m:=by
 have hk2:k<W.length:=by rw[h.1];exact hk
 exact⟨W[k],List.getElem?_eq_getElem hk2,h.2 _ (List.getElem_mem hk2)⟩
theorem BothI.ints (h:BothI B w0 w q r S F) {A A':Option Addr} {n c c':Nat} {xs:List Int} (h1:Rd w A n xs) (h2:Rd w A' n xs) :
  Calls Tryz.prog 30 #[.slice A n c,.slice A' n c'] w fun e w'=>e=.returned (.bool true)∧BothI B w0 w' q r S F:=by
 refine (Nw A A' n c n c' xs xs w h1 h2).mono ?_
 rintro e w' ⟨rfl,d⟩
 exact⟨by rw[show Wd xs xs=true by unfold Wd;simp],h.drawn d⟩
theorem BothI.bytes (h:BothI B w0 w q r S F) {A A':Option Addr} {n c c':Nat} {xs:List Int} (h1:pK w A n xs) (h2:pK w A' n xs) :
  Calls Tryz.prog 35 #[.slice A n c,.slice A' n c'] w fun e w'=>e=.returned (.bool true)∧BothI B w0 w' q r S F:=by
 refine (bytes_anyH A A' n c n c' xs xs w h1 h2).mono ?_
 rintro e w' ⟨rfl,d⟩
 exact⟨by rw[show Wd xs xs=true by unfold Wd;simp],h.drawn d⟩
theorem BothI.lists (h:BothI B w0 w q r S F) {A A':Option Addr} {n c c':Nat} {xs:List (List Int)} (h1:um w A n xs) (h2:um w A' n xs) :
  Calls Tryz.prog 36 #[.slice A n c,.slice A' n c'] w fun e w'=>e=.returned (.bool true)∧BothI B w0 w' q r S F:=by
 refine (VL A A' n c n c' xs xs w h1 h2).mono ?_
 rintro e w' ⟨rfl,d⟩
 exact⟨by rw[show eqL xs xs=true by unfold eqL;simp],h.drawn d⟩
theorem BothI.rdX {e:TypeId} {a:Option Nat} {c n:Nat} {W:vk} {xss:List (List Int)} (h:BothI B w0 w q r S (star (bR e a c W) F)) (hw:RowsOf xss n W) (hl:∀ x∈xss,x.length≤1000000) (hn:n≤1000000):um w (a.map fun b=>⟨b,0,none⟩) n xss:=by
 obtain⟨rfl,rfl⟩:=hw;exact h.rdW (fun x hx=>by have:=hl _ (List.mem_map.2 ⟨x,hx,rfl⟩);omega) (by omega)
theorem BothI.wordsL (h:BothI B w0 w q r S F) (n:Nat) (hn:S.words=n) :
  Calls Tryz.prog 37 #[.pointer (some ⟨q,0,none⟩)] w fun e w'=>e=.returned (.int .i64 (n:Nat))∧w=w':=by
 subst hn;exact dV h
theorem BothI.row {e:TypeId} {a:Option Nat} {c:Nat} {W:vk} (h:BothI B w0 w q r S (star (bR e a c W) F)) (k:Nat) (x:Option Nat×Nat×List Int) (hk:W[k]?=some x) :
  ∃ b,a=some b∧w.cell? ⟨b,k,none⟩=some (iB x.1 x.2.2.length x.2.1):=by
 have hkl:k<W.length:=by
  apply Classical.byContradiction;intro hh;rw[List.getElem?_eq_none (by omega)] at hk;cases hk
 have h2:=jg (h.st.aB (gJ _ _ _)) rfl
 cases a with
 | none =>
  have h3:=h2.sat.aR.2.2.2.1 rfl;omega
 | some b =>
  refine⟨b,rfl,?_⟩;rw[St.aW h2 k (by rw[Gw];exact hkl)];unfold JO;rw[List.getElem?_map,hk];rfl
theorem BothI.rowSpoil {e:TypeId} {a:Option Nat} {c:Nat} {W:vk} (h:BothI B w0 w q r S (star (bR e a c W) F)) (k:Nat) (x:Option Nat×Nat×List Int) (hk:W[k]?=some x) (n:Nat) (hn:x.2.2.length=n) (hs:n≤1000000) :
  Calls Tryz.prog 34 #[.slice (Option.map (fun b=>(⟨b,0,none⟩:Addr)) x.1) n x.2.1] w fun en w'=>en=.returned (.tuple #[])∧∃ ys:List Int,ys.length=n∧BothI B w0 w' q r S (star (bR e a c (W.set k (x.1,x.2.1,ys))) F):=by
 subst hn
 have hkl:k<W.length:=by
  apply Classical.byContradiction;intro hh;rw[List.getElem?_eq_none (by omega)] at hk;cases hk
 have hH:(JQ W)[k]?=some (bO 3 x.1 x.2.1 x.2.2):=by unfold JQ;rw[List.getElem?_map,hk];rfl
 have h2:=(h.st.aB (gJ _ _ _)).aB (show _=star (stars (JQ W)) (star (sl a W.length c e 1 (JO W)) (star F (star (Um q S) (Um r S)))) by unfold bR;ac_rfl);have h3:=h2.aX hH;refine (spoil_anyH x.1 x.2.1 x.2.2 B w0 w _ h3 (by omega)).mono ?_
 rintro en w' ⟨rfl,ys,hy,h4⟩
 refine⟨rfl,ys,hy,BothI.ofSt ?_⟩;have h5:=h4.aH (by unfold JQ;rw[List.length_map];exact hkl);have eH:(JQ W).set k (bO 3 x.1 x.2.1 ys)=JQ (W.set k (x.1,x.2.1,ys)):=by unfold JQ;rw[List.map_set]
 have eV:JO (W.set k (x.1,x.2.1,ys))=JO W:=by
  unfold JO;rw[List.map_set];apply List.ext_getElem?;intro i;rw[List.getElem?_set]
  split
  ·rename_i hik;subst hik;rw[List.getElem?_map,hk];simp[hy,hkl]
  ·rfl
 rw[eH] at h5;refine h5.aB ?_;unfold bR;rw[eV,List.length_set]
 ac_rfl
theorem BothI.byte {t:TypeId} {a:Option Nat} {c:Nat} {U:List Int} (h:BothI B w0 w q r S (star (Ba t a c U) F)) (k:Nat) (hk:k<U.length) :
  ∃ b,a=some b∧w.cell? ⟨b,k,none⟩=some (.int .u8 (gi U k))∧w.frozen? ⟨b,k,none⟩=false∧∀ v,BothI B w0 (w.setCell ⟨b,k,none⟩ (.int .u8 v)) q r S (star (Ba t a c (U.set k v)) F):=by
 have h2:St B w0 w (star (sl a U.length c t 1 (Gu U)) (star F (star (Um q S) (Um r S)))):=h.st.aB (gJ _ _ _)
 cases a with
 | none =>
  have h3:=h2.sat.aR.2.2.2.1 rfl;omega
 | some b =>
  refine⟨b,rfl,?_,St.bZ (h:=h2) k,fun v=>BothI.ofSt ?_⟩
  ·rw[St.aW h2 k (by rw[adb];exact hk),NI _ _ hk]
  ·have h3:=St.fH h2 k (.int .u8 v) (by rw[adb];exact hk);refine h3.aB ?_;unfold Ba;rw[List.length_set,show Gu (U.set k v)=(Gu U).set k (.int .u8 v) by unfold Gu;rw[List.map_set],gJ]
end
end Go.Proofs.YthbbmdnfkkffjaaGreat

/-
  Parts of the proof, joined by program: Byte1, Byte2.
-/
import Derived.Test.YthbbmdnfkkffjaaGreatZ41
import Derived.Test.YthbbmdnfkkffjaaGreatZ18
import Derived.Laws.BitsLemmas
namespace Go.Proofs.YthbbmdnfkkffjaaGreat
open Go.RowKit Go.Proofs.PlaitSep Go.Proofs.PlaitPure
theorem put_take (n:Int) {k:Nat} (h:k<4):(putF n).take (k+1)=(putF n).take k++[n/2 ^ (24-8*k) % 256]:=by
 obtain rfl | rfl | rfl | rfl:k=0∨k=1∨k=2∨k=3:=by omega
 ·rfl
 ·rfl
 ·rfl
 ·simp[putF]
set_option maxHeartbeats 1000000 in
theorem tput_any {B:Nat} {w0 w:World} {F:HP} (a:Option Nat) (c:Nat) (xs:List Int) (n:Int) (h:St B w0 w (star (slb 5 a c xs) F)) (hx:xs.length≤100000000) (_h0:0≤n) (_h1:n≤4294967295) :
  Calls Tryz.prog 76 #[slv a xs.length c,.int .i64 n] w fun e w'=>∃ a' c',e=.returned (slv a' (xs.length+4) c')∧St B w0 w' (star (slb 5 a' c' (xs++putF n)) F):=by
 obtain⟨l,hl⟩:∃ l,xs.length=l:=⟨_,rfl⟩
 have HL:=Lib.hid hl
 have H:=Lib.hid h
 rw[hl] at hx ⊢
 clear h hl
 go_enter Tryz.func76,Tryz.ntmps76
 unfold slv
 go_wp2
 go_loopw [0,6] (fun v0 v6 wr=>∃ (k:Nat) (a':Option Nat) (c':Nat),k≤4∧v6=.int .i64 k∧v0=.slice (a'.map fun b=>⟨b,0,none⟩) (l+k) c'∧Hid (St B w0 wr (star (slb 5 a' c' (xs++(putF n).take k)) F))) (fun _ v6 _=>4-(intOf v6).toNat)
 case atStart=>exact⟨0,a,c,Nat.zero_le _,rfl,rfl,(by rw[List.take_zero,List.append_nil];exact H.out:St B w0 w (star (slb 5 a c (xs++(putF n).take 0)) F))⟩
 case round =>
  obtain⟨k,a',c',hk,rfl,rfl,HS⟩:=hrel
  by_cases hk4:k<4
  ·have hlen:(xs++(putF n).take k).length=l+k:=by rw[List.length_append,HL.out,List.length_take,putF_length];omega
   have HLEN:=Lib.hid hlen
   have htk:=put_take n hk4
   have HTK:=Lib.hid htk
   have hk5:(k:Int)<4:=by omega
   clear hlen htk
   go_wp2_with (at_builtin;refine wpList_append_byte rfl _ _ 49 5 rfl Tryz.underlying49 Tryz.infoByte HS.out (l+k) HLEN.out rfl (n/2 ^ (24-8*k) % 256) rfl (by omega) ?_;intro b' c2 w4 h4;have H4:=Lib.hid h4;clear h4)
   go_roundw
   case rel =>
    refine⟨k+1,some b',c2,by omega,by go_num,rfl,(?_:St B w0 w4 (star (slb 5 (some b') c2 (xs++(putF n).take (k+1))) F))⟩
    rw[HTK.out,←List.append_assoc]
    exact H4.out
   case measure=>simp[intOf];omega
  ·obtain rfl:k=4:=by omega
   go_wp2
   go_ret
   exact⟨a',c',rfl,HS.out⟩
set_option maxHeartbeats 1000000 in
theorem wraps_i64 (n:Int) (h₀:0≤n) (h₁:n<2 ^ 40):IntKind.i64.wrap n=n:=IntWalk.i64_in _ (by omega)
theorem or8 {x y:Int} (h0:0≤x) (h1:x<1099511627776) (h2:x % 256=0) (h3:0≤y) (h4:y<256):bits .or .i64 x y=x+y:=bits_join .i64 40 (by decide) wraps_i64 8 x y h0 h2 h1 h3 h4 (by omega)
theorem or16 {x y:Int} (h0:0≤x) (h1:x<1099511627776) (h2:x % 65536=0) (h3:0≤y) (h4:y<65536):bits .or .i64 x y=x+y:=bits_join .i64 40 (by decide) wraps_i64 16 x y h0 h2 h1 h3 h4 (by omega)
theorem or24 {x y:Int} (h0:0≤x) (h1:x<1099511627776) (h2:x % 16777216=0) (h3:0≤y) (h4:y<16777216):bits .or .i64 x y=x+y:=bits_join .i64 40 (by decide) wraps_i64 24 x y h0 h2 h1 h3 h4 (by omega)
theorem RdB.drop4 {w:World} {A:Option Addr} {n:Nat} {x y z u:Int} {r:List Int} {b o:Nat} (h:RdB w A n (x :: y :: z :: u :: r)) (hA:A=some ⟨b,o,none⟩):RdB w (some ⟨b,o+4,none⟩) (n-4) r:=by
 have hl:=h.len
 simp only[List.length_cons] at hl
 refine⟨by omega,by have:=h.small;omega,fun hp=>⟨b,o+4,rfl,fun j hj=>?_⟩⟩
 obtain⟨b',o',e,hc⟩:=h.cells (by omega)
 rw[hA] at e
 obtain⟨rfl,rfl⟩:b=b'∧o=o':=by simpa using e
 have:=hc (j+4) (by omega)
 rw[show o+4+j=o+(j+4) by omega,this]
 simp[gi]
theorem RdB.none {w:World} {A:Option Addr}:RdB w A 0 []:=⟨rfl,by omega,fun h=>absurd h (by omega)⟩
set_option maxHeartbeats 1000000 in
theorem ttake_any (A:Option Addr) (n c:Nat) (b:List Int) (w:World) (hr:RdB w A n b) (hb:IsBytes b) (hc:n≤c) (_hcm:c≤9223372036854775807) :
  Calls Tryz.prog 98 #[.slice A n c] w fun e w'=>(takeF b=none→e=.returned (.tuple #[.int .i64 0,.slice A n c,.bool false])∧Drawn w w') ∧
   ∀ x r,takeF b=some (x,r)→∃ A' c',e=.returned (.tuple #[.int .i64 x,.slice A' (n-4) c',.bool true])∧Drawn w w'∧(∀ U,RdB U A n b→RdB U A' (n-4) r)∧n-4≤c'∧c'≤c:=by
 have hs:=hr.small
 have HR:=Lib.hid hr
 have hl:=hr.len
 by_cases h4:n<4
 ·have hd:decide ((n:Int)<4)=true:=by simp;omega
  have ht:takeF b=none:=by
   match b,hl with
   | [],_=>rfl
   | [_],_=>rfl
   | [_,_],_=>rfl
   | [_,_,_],_=>rfl
   | _ :: _ :: _ :: _ :: _,hl=>simp at hl;omega
  have HT:=Lib.hid ht
  clear hr hl ht
  go_enter Tryz.func98,Tryz.ntmps98
  go_wp2
  go_ret3
  exact⟨fun _=>⟨rfl,Drawn.refl _⟩,fun x r h=>by rw[HT.out] at h;cases h⟩
 ·obtain⟨x,y,z,u,r,rfl⟩:∃ x y z u r,b=x :: y :: z :: u :: r:=by
   match b,hl with
   | x :: y :: z :: u :: r,_=>exact⟨x,y,z,u,r,rfl⟩
   | [],hl=>simp at hl;omega
   | [_],hl=>simp at hl;omega
   | [_,_],hl=>simp at hl;omega
   | [_,_,_],hl=>simp at hl;omega
  obtain⟨ab,ao,rfl,hcell⟩:=hr.cells (by omega)
  have d0:w.cell? ⟨ab,ao,none⟩=some (.int .u8 x):=hcell 0 (by omega)
  have d1:w.cell? ⟨ab,ao+1,none⟩=some (.int .u8 y):=hcell 1 (by omega)
  have d2:w.cell? ⟨ab,ao+2,none⟩=some (.int .u8 z):=hcell 2 (by omega)
  have d3:w.cell? ⟨ab,ao+3,none⟩=some (.int .u8 u):=hcell 3 (by omega)
  have hd:decide ((n:Int)<4)=false:=by simp;omega
  obtain⟨x0,x1⟩:=hb x (by simp)
  obtain⟨y0,y1⟩:=hb y (by simp)
  obtain⟨z0,z1⟩:=hb z (by simp)
  obtain⟨u0,u1⟩:=hb u (by simp)
  have h04:(4:Int)≤(n:Int):=by omega
  have h4c:(4:Int)≤(c:Int):=by omega
  clear hr hl hcell hb
  by_cases hx:127<x
  ·have hd2:decide (127<x)=true:=by simpa using hx
   have ht:takeF (x :: y :: z :: u :: r)=none:=by show (if x≤127 then _ else _)=_;rw[if_neg (by omega)]
   have HT:=Lib.hid ht
   clear ht
   go_enter Tryz.func98,Tryz.ntmps98
   go_wp2
   go_ret3
   exact⟨fun _=>⟨rfl,Drawn.refl _⟩,fun x r h=>by rw[HT.out] at h;cases h⟩
  ·have hd2:decide (127<x)=false:=by simpa using hx
   have ht:takeF (x :: y :: z :: u :: r)=some (numF x y z u,r):=by show (if x≤127 then _ else _)=_;rw[if_pos (by omega)]
   have HT:=Lib.hid ht
   clear ht
   go_enter Tryz.func98,Tryz.ntmps98
   go_wp2
   go_loop [5,21] (fun v5 v21=>(v21=.int .i64 0∧v5=.int .i64 0)∨(v21=.int .i64 1∧v5=.int .i64 x)∨(v21=.int .i64 2∧v5=.int .i64 (x*256+y))∨(v21=.int .i64 3∧v5=.int .i64 ((x*256+y)*256+z))∨(v21=.int .i64 4∧v5=.int .i64 (((x*256+y)*256+z)*256+u))) (fun _ v21=>4-(intOf v21).toNat)
   case atStart=>exact .inl ⟨rfl,rfl⟩
   case round =>
    rcases hrel with ⟨rfl,rfl⟩ | ⟨rfl,rfl⟩ | ⟨rfl,rfl⟩ | ⟨rfl,rfl⟩ | ⟨rfl,rfl⟩
    ·have e:=or8 (x:=0) (y:=x) (by omega) (by omega) (by omega) x0 (by omega)
     rw[Int.zero_add] at e
     go_wp2
     go_round
     case rel=>exact .inr (.inl ⟨rfl,rfl⟩)
     case measure=>simp[intOf]
    ·have e:=or8 (x:=x*256) (y:=y) (by omega) (by omega) (by omega) y0 (by omega)
     go_wp2
     go_round
     case rel=>exact .inr (.inr (.inl ⟨rfl,rfl⟩))
     case measure=>simp[intOf]
    ·have e:=or8 (x:=(x*256+y)*256) (y:=z) (by omega) (by omega) (by omega) z0 (by omega)
     go_wp2
     go_round
     case rel=>exact .inr (.inr (.inr (.inl ⟨rfl,rfl⟩)))
     case measure=>simp[intOf]
    ·have e:=or8 (x:=((x*256+y)*256+z)*256) (y:=u) (by omega) (by omega) (by omega) u0 (by omega)
     go_wp2
     go_round
     case rel=>exact .inr (.inr (.inr (.inr ⟨rfl,rfl⟩)))
     case measure=>simp[intOf]
    ·have hnum:((x*256+y)*256+z)*256+u=numF x y z u:=by unfold numF;omega
     have HNUM:=Lib.hid hnum
     obtain⟨v,hv⟩:∃ v,((x*256+y)*256+z)*256+u=v:=⟨_,rfl⟩
     rw[hv] at HNUM ⊢
     clear hnum hv
     by_cases hc4:c=4
     ·have hn4:n=4:=by omega
      subst hc4
      subst hn4
      have hr0:r=[]:=by have:=HR.out.len;simp at this;exact this
      go_wp2
      go_quiet (fail)
      go_wp2
      go_ret3
      refine⟨(fun h=>by rw[HT.out] at h;cases h),fun x' r' h=>?_⟩
      rw[HT.out] at h
      cases h
      exact⟨_,_,(by rw[←HNUM.out];rfl),⟨_,rfl⟩,fun _ _=>(by rw[hr0];exact RdB.none),Nat.le_refl _,by omega⟩
     ·have hc5:(4:Int)<(c:Int):=by omega
      have hc6:4<c:=by omega
      go_wp2
      go_quiet (fail)
      go_wp2
      go_ret3
      refine⟨(fun h=>by rw[HT.out] at h;cases h),fun x' r' h=>?_⟩
      rw[HT.out] at h
      cases h
      exact⟨some ⟨ab,ao+4,none⟩,c-4,(by rw[←HNUM.out];rfl),⟨_,rfl⟩,fun _ hU=>RdB.drop4 hU rfl,by omega,by omega⟩
set_option maxHeartbeats 1000000 in
theorem tnumber_any (A:Option Addr) (n c:Nat) (b:List Int) (w:World) (hr:RdB w A n b) (hb:IsBytes b) (hc:n≤c) (_hcm:c≤9223372036854775807) :
  Calls Tryz.prog 77 #[.slice A n c] w fun e w'=>(n<4→e=.returned (.tuple #[.int .i64 0,.slice none 0 0,.bool false])∧Drawn w w') ∧
   ∀ x y z u r,b=x :: y :: z :: u :: r→∃ A' c',e=.returned (.tuple #[.int .i64 (numF x y z u),.slice A' (n-4) c',.bool true])∧Drawn w w'∧(∀ U,RdB U A n b→RdB U A' (n-4) r)∧n-4≤c'∧c'≤c:=by
 have hs:=hr.small
 have HR:=Lib.hid hr
 have hl:=hr.len
 by_cases h4:n<4
 ·have hd:decide ((n:Int)<4)=true:=by simp;omega
  have HL:=Lib.hid hl
  clear hr hl
  go_enter Tryz.func77,Tryz.ntmps77
  go_wp2
  go_ret3
  refine⟨fun _=>⟨rfl,Drawn.refl _⟩,fun x y z u r h=>?_⟩
  have:=HL.out
  rw[h] at this
  simp at this
  omega
 ·obtain⟨x,y,z,u,r,rfl⟩:∃ x y z u r,b=x :: y :: z :: u :: r:=by
   match b,hl with
   | x :: y :: z :: u :: r,_=>exact⟨x,y,z,u,r,rfl⟩
   | [],hl=>simp at hl;omega
   | [_],hl=>simp at hl;omega
   | [_,_],hl=>simp at hl;omega
   | [_,_,_],hl=>simp at hl;omega
  obtain⟨ab,ao,rfl,hcell⟩:=hr.cells (by omega)
  have d0:w.cell? ⟨ab,ao,none⟩=some (.int .u8 x):=hcell 0 (by omega)
  have d1:w.cell? ⟨ab,ao+1,none⟩=some (.int .u8 y):=hcell 1 (by omega)
  have d2:w.cell? ⟨ab,ao+2,none⟩=some (.int .u8 z):=hcell 2 (by omega)
  have d3:w.cell? ⟨ab,ao+3,none⟩=some (.int .u8 u):=hcell 3 (by omega)
  have hd:decide ((n:Int)<4)=false:=by simp;omega
  obtain⟨x0,x1⟩:=hb x (by simp)
  obtain⟨y0,y1⟩:=hb y (by simp)
  obtain⟨z0,z1⟩:=hb z (by simp)
  obtain⟨u0,u1⟩:=hb u (by simp)
  have h04:(4:Int)≤(n:Int):=by omega
  have h4c:(4:Int)≤(c:Int):=by omega
  have n0:(0:Int)<(n:Int):=by omega
  have n1:(1:Int)<(n:Int):=by omega
  have n2:(2:Int)<(n:Int):=by omega
  have n3:(3:Int)<(n:Int):=by omega
  have e1:IntKind.i64.wrap (x*16777216)=x*16777216:=IntWalk.i64_in _ (by omega)
  have e2:IntKind.i64.wrap (y*65536)=y*65536:=IntWalk.i64_in _ (by omega)
  have e3:IntKind.i64.wrap (z*256)=z*256:=IntWalk.i64_in _ (by omega)
  have f1:=or24 (x:=x*16777216) (y:=y*65536) (by omega) (by omega) (by omega) (by omega) (by omega)
  have f2:=or16 (x:=x*16777216+y*65536) (y:=z*256) (by omega) (by omega) (by omega) (by omega) (by omega)
  have f3:=or8 (x:=x*16777216+y*65536+z*256) (y:=u) (by omega) (by omega) (by omega) (by omega) (by omega)
  have HNUM:=Lib.hid (show x*16777216+y*65536+z*256+u=numF x y z u from rfl)
  clear hr hl hcell hb
  by_cases hc4:c=4
  ·have hn4:n=4:=by omega
   subst hc4
   subst hn4
   have hr0:r=[]:=by have:=HR.out.len;simp at this;exact this
   have HR0:=Lib.hid hr0
   clear hr0
   go_enter Tryz.func77,Tryz.ntmps77
   go_wp2
   go_quiet (fail)
   go_wp2
   go_ret3
   refine⟨fun h=>absurd h (by omega),fun x' y' z' u' r' h=>?_⟩
   cases h
   exact⟨_,_,(by rw[←HNUM.out];rfl),⟨_,rfl⟩,fun _ _=>(by rw[HR0.out];exact RdB.none),Nat.le_refl _,by omega⟩
  ·have hc5:(4:Int)<(c:Int):=by omega
   have hc6:4<c:=by omega
   go_enter Tryz.func77,Tryz.ntmps77
   go_wp2
   go_quiet (fail)
   go_wp2
   go_ret3
   refine⟨fun h=>absurd h (by omega),fun x' y' z' u' r' h=>?_⟩
   cases h
   exact⟨some ⟨ab,ao+4,none⟩,c-4,(by rw[←HNUM.out];rfl),⟨_,rfl⟩,fun _ hU=>RdB.drop4 hU rfl,by omega,by omega⟩
end Go.Proofs.YthbbmdnfkkffjaaGreat
namespace Go.Proofs.PlaitSep
open Go Go.RowKit Go.Proofs.PlaitPure
section
variable {P:Program} {ops:Array Oper} {rest:List Oper} {o:Oper} {a:Act} {Q:Exit→Act→World→Prop}
theorem wpList_make0 {w:World} (hgd:o.guard=none) (l c:Operand) (t e:TypeId) (z:Value) (bytes:Nat) (ho:o.op=.makeSlice t l c)
  (ht:P.underlying t=some (.slice e)) (hinfo:(P.info? e).map (fun i=>(i.zero,i.size,i.bytes))=some (some z,1,bytes)) (hz1:z.cells=#[z]) (n:Nat)
  (hl:a.eval l=.int .i64 0) (hc:a.eval c=.int .i64 (n:Int)) (hb:bytes*n≤281474976710656) (hn:n≤maxLen) (h63:n≤9223372036854775807)
  {B:Nat} {w0:World} {F:HP} (hst:St B w0 w F)
  (h:∀ b w',St B w0 w' (star (sl (some b) 0 n e 1 []) F)→wpList P ops Q rest (a.put o.dst (.slice (some ⟨b,0,none⟩) 0 n)) w') :
  wpList P ops Q (o :: rest) a w:=by
 refine wpList_plain hgd fun K hK=>?_
 obtain⟨i,hi,hzz⟩:=Option.map_eq_some_iff.1 hinfo
 simp only[Prod.mk.injEq] at hzz
 obtain⟨hz,hs,hb2⟩:=hzz
 have hb':(i.bytes:Int)*(n:Int)≤281474976710656:=by
  have h:((i.bytes*n:Nat):Int)≤281474976710656:=by rw[hb2];omega
  rwa [Int.natCast_mul] at h
 have hr:=run_make (P:=P) w t e i z ht hi hz .i64 .i64 0 n (by omega) (by omega) hb' (by omega)
 simp only[Int.toNat_natCast,hs,Nat.mul_one,hz1] at hr
 have h1:=hst.pt_new (madeCells #[z] n) e
 rw[madeCells_replicate] at h1
 have h2:St B w0 (w.alloc (.cells (madeCells #[z] n) e)) (star (sl (some w.heap.size) 0 n e 1 []) F):=⟨h1.below,h1.base,h1.sat.pt_sl (by simp) (Nat.zero_le _) hn (by simp) (by simp)⟩
 unfold Oper.wp execOp
 simp only[ho,hl,hc,Sem.run_bind,Sem.run_pure,hr,Result.andThen_ok]
 exact hK _ _ (h _ _ h2)
end
end Go.Proofs.PlaitSep
namespace Go.Proofs.YthbbmdnfkkffjaaGreat
open Go.RowKit Go.Proofs.PlaitSep Go.Proofs.PlaitPure
theorem put_to {B:Nat} {w0 w:World} {F:HP} (a:Option Nat) (c l:Nat) (xs:List Int) (n:Int) (hl:xs.length=l) (h:St B w0 w (star (slb 5 a c xs) F)) (hx:l≤100000000) (h0:0≤n) (h1:n≤4294967295) :
  Calls Tryz.prog 76 #[.slice (a.map fun b=>⟨b,0,none⟩) l c,.int .i64 n] w fun e w'=>∃ a' c',e=.returned (.slice (a'.map fun b=>⟨b,0,none⟩) (l+4) c')∧St B w0 w' (star (slb 5 a' c' (xs++putF n)) F):=by
 subst hl
 exact tput_any a c xs n h hx h0 h1
theorem slb_facts {B:Nat} {w0 w:World} {F:HP} {t:TypeId} {a:Option Nat} {c:Nat} {xs:List Int} (h:St B w0 w (star (slb t a c xs) F)):xs.length≤c∧c≤maxLen:=by
 obtain⟨_,h1,h2,_⟩:=h.sat.sl_facts
 exact⟨h1,h2⟩
def sumN (l:List (List Int)) (j:Nat):Nat:=((l.take j).map List.length).sum
theorem sumN_succ (l:List (List Int)) {j:Nat} (h:j<l.length):sumN l (j+1)=sumN l j+(gl l j).length:=by
 unfold sumN
 rw[take_gl l j h,List.map_append,List.sum_append]
 simp
theorem sumN_le (l:List (List Int)) (j:Nat):sumN l j≤(l.map List.length).sum:=by
 unfold sumN
 conv=>rhs;rw[←List.take_append_drop j l]
 rw[List.map_append,List.sum_append]
 omega
theorem sumN_all (l:List (List Int)) {j:Nat} (h:l.length≤j):sumN l j=(l.map List.length).sum:=by unfold sumN;rw[List.take_of_length_le h]
theorem encF_bad {l:List (List Int)} {j t:Nat} (hj:j<l.length) (ht:t<(gl l j).length) (h:okN (gi (gl l j) t)=false):encF l=([],120):=by
 unfold encF
 rw[if_neg]
 intro ha
 rw[List.all_eq_true] at ha
 have h1:=ha (gl l j) (by rw[gl_eq l j hj];exact List.getElem_mem hj)
 rw[List.all_eq_true] at h1
 have h2:=h1 (gi (gl l j) t) (by rw[gi_eq _ t ht];exact List.getElem_mem ht)
 rw[h] at h2
 cases h2
theorem encF_good {l:List (List Int)} (h:∀ j,j<l.length→∀ t,t<(gl l j).length→okN (gi (gl l j) t)=true):encF l=(encB l,0):=by
 unfold encF
 rw[if_pos]
 rw[List.all_eq_true]
 intro s hs
 obtain⟨j,hj,rfl⟩:=List.getElem_of_mem hs
 rw[List.all_eq_true]
 intro x hx
 obtain⟨t,ht,rfl⟩:=List.getElem_of_mem hx
 have:=h j hj t (by rw[gl_eq l j hj];exact ht)
 rwa [gl_eq l j hj,gi_eq _ t ht] at this
def EncPost (w:World) (l:List (List Int)) (e:Ending) (w':World):Prop :=
 Below w.heap.size w w'∧((encF l).2=0→∃ a c,e=.returned (.tuple #[.slice (Option.map (fun b=>(⟨b,0,none⟩:Addr)) a) (encB l).length c,.int .i64 0])∧St w.heap.size w w' (star (slb 5 a c (encB l)) emp)∧(encB l).length≤c∧c≤9223372036854775807) ∧
  ((encF l).2≠0→e=.returned (.tuple #[.slice none 0 0,.int .i64 (encF l).2]))
theorem encB_head (l:List (List Int)):encB l=putF 1347179569++putF l.length++l.flatMap stepB:=by unfold encB;rw[List.append_assoc]
set_option maxRecDepth 100000 in
set_option maxHeartbeats 4000000 in
theorem encode_any (A:Option Addr) (n cap:Nat) (l:List (List Int)) (w:World) (hr:Rd2 w A n l) (hsum:8+4*n+4*(l.map List.length).sum≤4194304) :
  Calls Tryz.prog 56 #[.slice A n cap] w (EncPost w l):=by
 have HR:=Lib.hid hr
 have HSUM:=Lib.hid hsum
 have hnb:n≤1048576:=by omega
 have heach:∀ j,j<n→(gl l j).length≤1048576:=fun j hj=>by
  have h1:=sumN_succ l (j:=j) (by have:=hr.len;omega)
  have h2:=sumN_le l (j+1)
  omega
 have HE:=Lib.hid heach
 clear hr hsum heach
 go_enter Tryz.func56,Tryz.ntmps56
 go_wp2
 go_loopw [4,16] (fun v4 v16 wr=>∃ j:Nat,j≤n∧v16=.int .i64 j∧(∃ s:Nat,v4=.int .i64 s∧Hid (s=8+4*j+4*sumN l j))∧Below w.heap.size w wr∧Hid (∀ i,i<j→∀ t,t<(gl l i).length→okN (gi (gl l i) t)=true)) (fun _ v16 _=>n-(intOf v16).toNat)
 case atStart=>exact⟨0,Nat.zero_le _,rfl,⟨8,rfl,rfl⟩,Below.refl _ _,(fun i hi=>absurd hi (Nat.not_lt_zero i):∀ i,i<0→_)⟩
 case round =>
  obtain⟨j,hj,rfl,⟨s,rfl,HS⟩,hB,HOK⟩:=hrel
  have hsb:s≤4194304:=by
   have:=HS.out
   have:=sumN_le l j
   have:=HSUM.out
   omega
  by_cases hjn:j<n
  ·obtain⟨ab,ao,hA,hc⟩:=(HR.out.grow hB).cells (by omega)
   subst hA
   obtain⟨Aj,cj,d1,hrj⟩:=hc j hjn
   have hsm:=HE.out j hjn
   obtain⟨xs,hxs⟩:∃ xs,gl l j=xs:=⟨_,rfl⟩
   obtain⟨ln,hln⟩:∃ ln,xs.length=ln:=⟨_,rfl⟩
   rw[hxs,hln] at d1 hrj
   rw[hxs,hln] at hsm
   have hsn:=sumN_succ l (j:=j) (by have:=HR.out.len;omega)
   rw[hxs,hln] at hsn
   have HSN:=Lib.hid hsn
   have HXS:=Lib.hid hxs
   have HLN:=Lib.hid hln
   have HB:=Lib.hid hB
   have HRJ:=Lib.hid (hrj)
   have hj0:(0:Int)≤(j:Int):=by omega
   have hj1:(j:Int)<(n:Int):=by omega
   clear hc hxs hln hsn hB hrj
   have HB2:=Lib.hid (show Below w.heap.size w (wr.alloc (.cells #[.slice Aj ln cj] 106)) from HB.out.alloc HB.out.size _)
   have HRJ2:=Lib.hid (HRJ.out.grow (show Below wr.heap.size wr (wr.alloc (.cells #[.slice Aj ln cj] 106)) from (Below.refl _ _).alloc (Nat.le_refl _) _))
   go_wp2
   obtain⟨w2,hw2⟩:∃ w2,wr.alloc (.cells #[.slice Aj ln cj] 106)=w2:=⟨_,rfl⟩
   rw[hw2] at HB2 HRJ2 ⊢
   clear hw2 d1
   go_loop [4,25] (fun v4 v25=>∃ t:Nat,t≤ln∧v25=.int .i64 t∧v4=.int .i64 ((s:Int)+4+4*t)∧Hid (∀ i,i<t→okN (gi xs i)=true)) (fun _ v25=>ln-(intOf v25).toNat)
   case atStart=>exact⟨0,Nat.zero_le _,rfl,by simp,(fun i hi=>absurd hi (Nat.not_lt_zero i):∀ i,i<0→_)⟩
   case round =>
    obtain⟨t,ht,rfl,rfl,HT⟩:=hrel
    by_cases htn:t<ln
    ·obtain⟨bx,ox,hAj,hcx⟩:=HRJ2.out.cells (by omega)
     subst hAj
     have d2:=hcx t htn
     obtain⟨x,hx⟩:∃ x,gi xs t=x:=⟨_,rfl⟩
     rw[hx] at d2
     have HX:=Lib.hid hx
     have t0:(0:Int)≤(t:Int):=by omega
     have t1:(t:Int)<(ln:Int):=by omega
     clear hcx hx
     by_cases h0:x<0
     ·have e0:decide (x<0)=true:=by simpa using h0
      have hbad:=encF_bad (l:=l) (j:=j) (t:=t) (by have:=HR.out.len;omega) (by rw[HXS.out,HLN.out];exact htn) (by rw[HXS.out,HX.out];simp[okN];omega)
      have HBAD:=Lib.hid hbad
      clear hbad
      go_wp2
      go_ret2
      exact⟨HB2.out,fun h=>(by rw[HBAD.out] at h;cases h),fun _=>by rw[HBAD.out];rfl⟩
     ·have e0:decide (x<0)=false:=by simpa using h0
      by_cases h1:2147483647<x
      ·have e1:decide (2147483647<x)=true:=by simpa using h1
       have hbad:=encF_bad (l:=l) (j:=j) (t:=t) (by have:=HR.out.len;omega) (by rw[HXS.out,HLN.out];exact htn) (by rw[HXS.out,HX.out];simp[okN];omega)
       have HBAD:=Lib.hid hbad
       clear hbad
       go_wp2
       go_ret2
       exact⟨HB2.out,fun h=>(by rw[HBAD.out] at h;cases h),fun _=>by rw[HBAD.out];rfl⟩
      ·have e1:decide (2147483647<x)=false:=by simpa using h1
       have hok:okN x=true:=okN_iff.2 (by omega)
       have HOKX:=Lib.hid hok
       clear hok h0 h1
       go_wp2
       go_round
       case rel =>
        refine⟨t+1,by omega,by go_num,by rw[show (s:Int)+4+4*((t+1:Nat):Int)=(s:Int)+4+4*(t:Int)+4 by omega],(fun i hi=>?_:∀ i,i<t+1→okN (gi xs i)=true)⟩
        by_cases e:i=t
        ·rw[e,HX.out];exact HOKX.out
        ·exact HT.out i (by omega)
       case measure=>simp[intOf];omega
    ·obtain rfl:t=ln:=by omega
     go_wp2
     go_roundw
     case rel =>
      refine⟨j+1,by omega,by go_num,⟨s+4+4*t,by simp,(by rw[HSN.out];have:=HS.out;omega:s+4+4*t=8+4*(j+1)+4*sumN l (j+1))⟩,HB2.out,(fun i hi=>?_:∀ i,i<j+1→∀ u,u<(gl l i).length→okN (gi (gl l i) u)=true)⟩
      by_cases e:i=j
      ·rw[e,HXS.out]
       intro u hu
       exact HT.out u (by rw[←HLN.out];exact hu)
      ·exact HOK.out i (by omega)
     case measure=>simp[intOf];omega
  ·obtain rfl:j=n:=by omega
   have hlen:=HR.out.len
   have hgood:=encF_good (l:=l) (fun i hi t ht=>HOK.out i (by omega) t ht)
   have hs:s=(encB l).length:=by
    rw[encB_length,hlen]
    have:=HS.out
    rw[sumN_all l (by omega)] at this
    exact this
   have HGOOD:=Lib.hid hgood
   have HSE:=Lib.hid hs
   have HB:=Lib.hid hB
   have HLEN:=Lib.hid hlen
   have hds:decide (4194304<(s:Int))=false:=by simp;omega
   have hst0:St w.heap.size w wr emp:=⟨hB,hB.size,Sat.emp _ _⟩
   have HST0:=Lib.hid hst0
   clear hlen hgood hs hB hst0 HOK HS
   go_wp2_with (refine wpList_make0 rfl _ _ 49 5 (.int .u8 0) 1 rfl Tryz.underlying49 Tryz.infoByte rfl s rfl rfl (by omega) (by unfold maxLen;omega) (by omega) HST0.out ?_;intro mb w3 h3;have H3:=Lib.hid h3;clear h3)
   refine (put_to (some mb) s 0 [] 1347179569 rfl H3.out (by omega) (by omega) (by omega)).mono ?_
   rintro e w4 ⟨a1,c1,rfl,h4⟩
   have H4:=Lib.hid h4
   clear h4
   go_wp2_with fail
   refine (put_to a1 c1 4 _ j rfl H4.out (by omega) (by omega) (by omega)).mono ?_
   rintro e w5 ⟨a2,c2,rfl,h5⟩
   have H5:=Lib.hid (show St w.heap.size w w5 (star (slb 5 a2 c2 (putF 1347179569++putF j)) emp) from h5)
   clear h5
   go_wp2
   go_loopw [9,49] (fun v9 v49 wt=>∃ (i:Nat) (a':Option Nat) (c':Nat) (cl:Nat),i≤j∧v49=.int .i64 i∧v9=.slice (a'.map fun b=>⟨b,0,none⟩) cl c'∧Hid (cl=8+4*i+4*sumN l i)∧Hid (St w.heap.size w wt (star (slb 5 a' c' (putF 1347179569++putF j++(l.take i).flatMap stepB)) emp))) (fun _ v49 _=>j-(intOf v49).toNat)
   case atStart=>exact⟨0,a2,c2,8,Nat.zero_le _,rfl,rfl,rfl,(by rw[List.take_zero,List.flatMap_nil,List.append_nil];exact H5.out:St w.heap.size w w5 (star (slb 5 a2 c2 (putF 1347179569++putF j++(l.take 0).flatMap stepB)) emp))⟩
   case round =>
    obtain⟨i,a',c',cl,hi,rfl,rfl,HCL,HST⟩:=hrel
    by_cases hij:i<j
    ·obtain⟨ab,ao,hA,hc⟩:=HR.out.cells (by omega)
     subst hA
     obtain⟨Aj,cj,d0,hrj⟩:=hc i hij
     have hlt0:=World.block_lt_of_cell? w _ d0
     have hsm:=HE.out i hij
     obtain⟨xs,hxs⟩:∃ xs,gl l i=xs:=⟨_,rfl⟩
     obtain⟨ln,hln⟩:∃ ln,xs.length=ln:=⟨_,rfl⟩
     rw[hxs,hln] at d0 hrj
     rw[hxs,hln] at hsm
     have d1:=(HST.out.below.cell hlt0).trans d0
     have hsn:=sumN_succ l (j:=i) (by rw[HLEN.out];exact hij)
     rw[hxs,hln] at hsn
     have hle:=sumN_le l (i+1)
     have htk:(l.take (i+1)).flatMap stepB=(l.take i).flatMap stepB++stepB xs:=by
      rw[take_gl l i (by rw[HLEN.out];exact hij),hxs,List.flatMap_append]
      simp
     have hclb:cl+4+4*ln≤4194304:=by
      have:=HCL.out
      have:=HSUM.out
      omega
     have hok:∀ t,t<ln→okN (gi xs t)=true:=fun t ht=>by
      have h1:=HGOOD.out
      unfold encF at h1
      split at h1
      ·rename_i ha
       rw[List.all_eq_true] at ha
       have h2:=ha (gl l i) (by rw[gl_eq l i (by rw[HLEN.out];exact hij)];exact List.getElem_mem _)
       rw[List.all_eq_true,hxs] at h2
       exact h2 _ (by rw[gi_eq _ t (by omega)];exact List.getElem_mem _)
      ·cases h1
     have hlc:(putF 1347179569++putF j++(l.take i).flatMap stepB).length=cl:=by
      rw[List.length_append,List.length_append,flat_step_length,putF_length,putF_length,List.length_take,HLEN.out]
      have:=HCL.out
      unfold sumN at this
      omega
     have HSN:=Lib.hid hsn
     have HTK:=Lib.hid htk
     have HLC:=Lib.hid hlc
     have HOK:=Lib.hid hok
     have HLN:=Lib.hid hln
     have hj0:(0:Int)≤(i:Int):=by omega
     have hj1:(i:Int)<(j:Int):=by omega
     have H6:=Lib.hid ((St.pt_new HST.out #[.slice Aj ln cj] 106).conseq (show _=star (slb 5 a' c' (putF 1347179569++putF j++(l.take i).flatMap stepB)) (pt wr.heap.size 106 [.slice Aj ln cj]) by rw[star_emp];ac_rfl))
     have HRJ:=Lib.hid hrj
     clear hc hxs hln hsn hle htk hok hlc hrj
     go_wp2_with fail
     refine (put_to a' c' cl _ ln HLC.out H6.out (by omega) (by omega) (by omega)).mono ?_
     rintro e w7 ⟨a7,c7,rfl,h7⟩
     have HRJ7:=Lib.hid (HRJ.out.grow h7.below)
     have H7:=Lib.hid h7
     have d7:w7.cell? ⟨wr.heap.size,0,none⟩=some (.slice Aj ln cj):=by
      rw[St.pt_cell (h7.conseq (star_comm _ _)) 0]
      rfl
     have H7b:=Lib.hid ((h7.drop).conseq (star_emp _).symm)
     clear h7 d1 d0
     go_wp2
     obtain⟨cur0,hcur0⟩:∃ cur0,putF 1347179569++putF j++(l.take i).flatMap stepB++putF ln=cur0:=⟨_,rfl⟩
     have hcl0:cur0.length=cl+4:=by rw[←hcur0,List.length_append,HLC.out,putF_length]
     rw[hcur0] at H7b
     have HCUR:=Lib.hid hcur0
     have HCL0:=Lib.hid hcl0
     clear hcur0 hcl0 H7
     go_loopw [9,61] (fun v9 v61 wq=>∃ (t:Nat) (a':Option Nat) (c':Nat),t≤ln∧v61=.int .i64 t∧v9=.slice (a'.map fun b=>⟨b,0,none⟩) (cl+4+4*t) c'∧Hid (St w.heap.size w wq (star (slb 5 a' c' (cur0++(xs.take t).flatMap putF)) emp))) (fun _ v61 _=>ln-(intOf v61).toNat)
     case atStart=>exact⟨0,a7,c7,Nat.zero_le _,rfl,rfl,(by rw[List.take_zero,List.flatMap_nil,List.append_nil];exact H7b.out:St w.heap.size w w7 (star (slb 5 a7 c7 (cur0++(xs.take 0).flatMap putF)) emp))⟩
     case round =>
      obtain⟨t,a8,c8,ht,rfl,rfl,HQ⟩:=hrel
      by_cases htn:t<ln
      ·obtain⟨bx,ox,hAj,hcx⟩:=(HRJ.out.grow HQ.out.below).cells (by omega)
       subst hAj
       have d2:=hcx t htn
       obtain⟨x,hx⟩:∃ x,gi xs t=x:=⟨_,rfl⟩
       rw[hx] at d2
       have hxok:=HOK.out t htn
       rw[hx] at hxok
       obtain⟨x0,x1⟩:=okN_iff.1 hxok
       have htk2:(xs.take (t+1)).flatMap putF=(xs.take t).flatMap putF++putF x:=by
        rw[take_gi xs t (by rw[HLN.out];exact htn),hx,List.flatMap_append]
        simp
       have HTK2:=Lib.hid htk2
       have hlq:(cur0++(xs.take t).flatMap putF).length=cl+4+4*t:=by
        rw[List.length_append,HCL0.out,flat_put_length,List.length_take,HLN.out]
        omega
       have HLQ:=Lib.hid hlq
       have t0:(0:Int)≤(t:Int):=by omega
       have t1:(t:Int)<(ln:Int):=by omega
       clear hcx hx hxok htk2 hlq
       go_wp2_with fail
       refine (put_to a8 c8 (cl+4+4*t) _ x HLQ.out HQ.out (by omega) (by omega) (by omega)).mono ?_
       rintro e w9 ⟨a9,c9,rfl,h9⟩
       have H9:=Lib.hid h9
       clear h9
       go_wp2
       go_roundw
       case rel =>
        refine⟨t+1,a9,c9,by omega,by go_num,by rw[show cl+4+4*(t+1)=cl+4+4*t+4 by omega],(?_:St w.heap.size w w9 (star (slb 5 a9 c9 (cur0++(xs.take (t+1)).flatMap putF)) emp))⟩
        rw[HTK2.out,←List.append_assoc]
        exact H9.out
       case measure=>simp[intOf];omega
      ·obtain rfl:t=ln:=by omega
       go_wp2
       go_roundw
       case rel =>
        refine⟨i+1,a8,c8,cl+4+4*t,by omega,by go_num,rfl,(by rw[HSN.out];have:=HCL.out;omega:cl+4+4*t=8+4*(i+1)+4*sumN l (i+1)),(?_:St w.heap.size w wr (star (slb 5 a8 c8 (putF 1347179569++putF j++(l.take (i+1)).flatMap stepB)) emp))⟩
        rw[HTK.out]
        have:=HQ.out
        rw[List.take_of_length_le (by rw[HLN.out];omega),←HCUR.out] at this
        unfold stepB
        rw[HLN.out]
        simp only[List.append_assoc] at this ⊢
        exact this
       case measure=>simp[intOf];omega
    ·obtain rfl:i=j:=by omega
     have hfin:=HST.out
     rw[List.take_of_length_le (by rw[HLEN.out];omega),←HLEN.out,←encB_head] at hfin
     have hcl:cl=(encB l).length:=by
      rw[←HSE.out]
      have:=HCL.out
      rw[sumN_all l (by rw[HLEN.out];omega)] at this
      have h2:=encB_length l
      rw[←HSE.out,HLEN.out] at h2
      omega
     obtain⟨f1,f2⟩:=slb_facts hfin
     have HFIN:=Lib.hid hfin
     have HCLE:=Lib.hid hcl
     clear hfin hcl
     go_wp2
     go_ret2
     exact⟨HFIN.out.below,fun _=>⟨a',c',(by rw[←HCLE.out];rfl),HFIN.out,f1,f2⟩,fun h=>absurd (by rw[HGOOD.out]) h⟩
end Go.Proofs.YthbbmdnfkkffjaaGreat

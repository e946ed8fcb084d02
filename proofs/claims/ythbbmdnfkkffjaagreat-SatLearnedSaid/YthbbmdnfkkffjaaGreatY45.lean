/-
  Parts of the proof, joined by program: True, Can.
-/
import Derived.Test.YthbbmdnfkkffjaaGreatY30
import Derived.Test.YthbbmdnfkkffjaaGreatY44
import Derived.Test.YthbbmdnfkkffjaaGreatY01
import Derived.Lib.Hide
set_option maxHeartbeats 8000000
set_option maxRecDepth 100000
namespace Go.Proofs.YthbbmdnfkkffjaaGreat
open Go.RowKit Go.Proofs.aC Go.Proofs.au
def yX (n:Int) (v:Nat):Bool:=bits BinOp.and IntKind.i64 (n/2 ^ (v-1)) 1==1
def Few (c:List Int):Prop:=∀ x∈c,x≠0∧-60≤x∧x≤60
theorem IG {f:Nat→Bool} {c:List Int} {k:Nat} (h:k<c.length):Ke f (c.take (k+1))=(Ke f (c.take k)||AX f (gi c k)):=by
 rw[gV c k h];simp[Ke]
theorem PO {f:Nat→Bool} {c:List Int} {k:Nat} (h:Ke f (c.take k)=true):Ke f c=true:=by
 rw[LH] at h ⊢;obtain⟨x,hx,h2⟩:=h;exact⟨x,List.mem_of_mem_take hx,h2⟩
theorem PS (A:Option Addr) (n cap:Nat) (c:List Int) (nn:Int) (w:World) (hr:Rd w A n c) (hf:Few c) (_h0:0≤nn) (_h1:nn≤1000000) :
  Calls Tryz.prog 53 #[.slice A n cap,.int .i64 nn] w fun e w'=>e=.returned (.bool (Ke (yX nn) c))∧bJ w w':=by
 have hs:=hr.small;have HR:=zH hr;have HF:=zH hf;clear hr hf
 go_enter Tryz.func53,Tryz.ntmps53
 go_wp2
 go_loopw [5] (fun i wr=>∃ k:Nat,k≤n∧i=.int .i64 k∧Hid (Ke (yX nn) (c.take k)=false)∧Hid (bJ w wr)) (fun i _=>n-(intOf i).toNat)
 case atStart=>exact⟨0,Nat.zero_le _,rfl,(rfl:Ke (yX nn) (c.take 0)=false),bJ.refl w⟩
 case round =>
  obtain⟨k,hk,rfl,HX,HD⟩:=hrel
  by_cases hkn:k<n
  ·obtain⟨bx,ox,hA,hcx⟩:=(HR.out.drawn HD.out).cells (by omega);subst hA;have d2:=hcx k hkn;have hkl:k<c.length:=by rw[HR.out.len];exact hkn
   obtain⟨x0,x1,x2⟩:=HF.out (gi c k) (by rw[dh c k hkl];exact List.getElem_mem _);have hts:=IG (f:=yX nn) hkl;rw[HX.out,Bool.false_or] at hts;obtain⟨x,hx⟩:∃ x,gi c k=x:=⟨_,rfl⟩;rw[hx] at d2 x0 x1 x2 hts;have HTS:=zH hts;have k0:(0:Int)≤(k:Int):=by omega
   have k1:(k:Int)<(n:Int):=by omega
   obtain⟨av,hav⟩:∃ av,max x (-x)=av:=⟨_,rfl⟩;have hav1:1≤av:=by omega
   have hav2:av≤60:=by omega
   obtain⟨tb,htb⟩:∃ tb,((bits BinOp.and IntKind.i64 (nn/2 ^ (av.toNat-1)) 1==1)==decide (0<x))=tb:=⟨_,rfl⟩
   have HTB:=zH (show Ke (yX nn) (c.take (k+1))=tb by
    rw[HTS.out];unfold AX yX;rw[show x.natAbs=av.toNat by omega]
    exact htb)
   clear hcx hx hkl hts
   go_wp2_with fail
   go_quiet (fail)
   go_wp2_with fail
   go_quiet (fail)
   cases tb with
   | true =>
    go_wp2
    go_ret
    exact⟨fV (PO HTB.out).symm,(HD.out.step _).step _⟩
   | false =>
    go_wp2
    go_roundw
    case rel=>exact⟨k+1,by omega,by go_num,HTB.out,HD.out.step _⟩
    case measure=>simp[intOf];omega
  ·obtain rfl:k=n:=by omega
   have hx:=HX.out;rw[List.take_of_length_le (by rw[HR.out.len];exact Nat.le_refl _)] at hx;have HX2:=zH hx;clear hx
   go_wp2
   go_ret
   exact⟨fV HX2.out.symm,HD.out⟩
theorem G9 {f:Nat→Bool} {G:List (List Int)} {k:Nat} (h:k<G.length):allT f (G.take (k+1))=(allT f (G.take k)&&Ke f (gl G k)):=by
 rw[lI G k h];simp[allT]
theorem LJ {f:Nat→Bool} {G:List (List Int)} {k:Nat} (h:allT f (G.take k)=false):allT f G=false:=by
 cases e:allT f G with
 | false=>rfl
 | true =>
  unfold allT at h e;rw[List.all_eq_true] at e;rw[←h];symm;rw[List.all_eq_true];exact fun x hx=>e x (List.mem_of_mem_take hx)
theorem Ui (A:Option Addr) (n cap:Nat) (G:List (List Int)) (nn:Int) (w:World) (hr:um w A n G) (hf:∀ c∈G,Few c) (h0:0≤nn) (h1:nn≤1000000) :
  Calls Tryz.prog 52 #[.slice A n cap,.int .i64 nn] w fun e w'=>e=.returned (.bool (allT (yX nn) G))∧bJ w w':=by
 have hs:=hr.small;have HR:=zH hr;have HF:=zH hf;clear hr hf
 go_enter Tryz.func52,Tryz.ntmps52
 go_wp2
 go_loopw [5] (fun i wr=>∃ k:Nat,k≤n∧i=.int .i64 k∧Hid (allT (yX nn) (G.take k)=true)∧Hid (bJ w wr)) (fun i _=>n-(intOf i).toNat)
 case atStart=>exact⟨0,Nat.zero_le _,rfl,(rfl:allT (yX nn) (G.take 0)=true),bJ.refl w⟩
 case round =>
  obtain⟨k,hk,rfl,HX,HD⟩:=hrel
  by_cases hkn:k<n
  ·obtain⟨bx,ox,hA,hcx⟩:=(HR.out.heap HD.out.heap).cells (by omega);subst hA;obtain⟨Aj,cj,d2,kC⟩:=hcx k hkn;have hkl:k<G.length:=by rw[HR.out.len];exact hkn
   have ai4:=HF.out (gl G k) (by rw[jq G k hkl];exact List.getElem_mem _);have hts:=G9 (f:=yX nn) hkl;rw[HX.out,Bool.true_and] at hts;have HC:=zH (PS Aj (gl G k).length cj (gl G k) nn wr kC ai4 h0 h1);obtain⟨tb,htb⟩:∃ tb,Ke (yX nn) (gl G k)=tb:=⟨_,rfl⟩;rw[htb] at hts HC;obtain⟨ln,hln⟩:∃ ln,(gl G k).length=ln:=⟨_,rfl⟩;rw[hln] at d2 HC;have HTS:=zH hts;have k0:(0:Int)≤(k:Int):=by omega
   have k1:(k:Int)<(n:Int):=by omega
   clear hcx kC hkl ai4 hts htb hln
   go_wp2_with fail
   refine HC.out.mono ?_
   rintro e w2 ⟨rfl,hd⟩
   have HD2:=zH (HD.out.trans hd);clear hd
   cases tb with
   | true =>
    go_wp2
    go_roundw
    case rel=>exact⟨k+1,by omega,by go_num,HTS.out,HD2.out⟩
    case measure=>simp[intOf];omega
   | false =>
    go_wp2
    go_ret
    exact⟨fV (LJ HTS.out).symm,HD2.out⟩
  ·obtain rfl:k=n:=by omega
   have hx:=HX.out;rw[List.take_of_length_le (by rw[HR.out.len];exact Nat.le_refl _)] at hx;have HX2:=zH hx;clear hx
   go_wp2
   go_ret
   exact⟨fV HX2.out.symm,HD.out⟩
def Ci (G:List (List Int)) (v:Nat):Bool:=(List.range (2 ^ v)).any fun n=>allT (yX n) G
def afB (G:List (List Int)) (c:List Int) (v:Nat):Bool:=(List.range (2 ^ v)).all fun n=>!(allT (yX n) G&&!Ke (yX n) c)
theorem acv (A:Option Addr) (n cap:Nat) (G:List (List Int)) (v:Nat) (w:World) (hr:um w A n G) (hf:∀ c∈G,Few c) (hv:v≤12) :
  Calls Tryz.prog 50 #[.slice A n cap,.int .i64 (v:Int)] w fun e w'=>e=.returned (.bool (Ci G v))∧bJ w w':=by
 have hs:=hr.small;have HR:=zH hr;have HF:=zH hf;clear hr hf;have hp:(2:Nat) ^ v≤2 ^ 12:=Nat.pow_le_pow_right (by decide) hv;obtain⟨P,hP⟩:∃ P,(2:Nat) ^ v=P:=⟨_,rfl⟩;have hP2:(2:Int) ^ v=(P:Int):=by rw[←hP];simp
 rw[hP] at hp;have HP:=zH hP;have hp':P≤4096:=by simpa using hp
 clear hp hP
 go_enter Tryz.func50,Tryz.ntmps50
 go_wp2
 go_loopw [5] (fun i wr=>∃ k:Nat,k≤P∧i=.int .i64 k∧Hid (∀ m,m<k→allT (yX (m:Nat)) G=false)∧Hid (bJ w wr)) (fun i _=>P-(intOf i).toNat)
 case atStart=>exact⟨0,Nat.zero_le _,rfl,(fun m hm=>absurd hm (Nat.not_lt_zero _):∀ m,m<0→allT (yX (m:Nat)) G=false),bJ.refl w⟩
 case round =>
  obtain⟨k,hk,rfl,HX,HD⟩:=hrel
  by_cases hkn:k<P
  ·have HC:=zH (Ui A n cap G k wr (HR.out.heap HD.out.heap) HF.out (by omega) (by omega));obtain⟨tb,htb⟩:∃ tb,allT (yX (k:Nat)) G=tb:=⟨_,rfl⟩;rw[htb] at HC;have HTB:=zH htb;have k1:(k:Int)<(P:Int):=by omega
   have HKN:=zH hkn;clear htb
   go_wp2_with fail
   refine HC.out.mono ?_
   rintro e w2 ⟨rfl,hd⟩
   have HD2:=zH (HD.out.trans hd);clear hd HC
   cases tb with
   | false =>
    have HX2:=zH (show ∀ m,m<k+1→allT (yX (m:Nat)) G=false from fun m hm=>by
     by_cases e:m=k
     ·subst e;exact HTB.out
     ·exact HX.out m (by omega))
    go_wp2
    go_roundw
    case rel=>exact⟨k+1,by omega,by go_num,HX2.out,HD2.out⟩
    case measure=>simp[intOf];omega
   | true =>
    go_wp2
    go_ret
    refine⟨fV ?_,HD2.out⟩;symm;unfold Ci;rw[List.any_eq_true];exact⟨k,by rw[List.mem_range,HP.out];exact HKN.out,HTB.out⟩
  ·obtain rfl:k=P:=by omega
   go_wp2
   go_ret
   refine⟨fV ?_,HD.out⟩;symm;unfold Ci;rw[List.any_eq_false];intro m hm;rw[List.mem_range,HP.out] at hm;rw[HX.out m hm];exact Bool.false_ne_true
theorem adw (A:Option Addr) (n cap:Nat) (G:List (List Int)) (A1:Option Addr) (n1 ai5:Nat) (c:List Int) (v:Nat) (w:World) (hr:um w A n G) (hr1:Rd w A1 n1 c) (hf:∀ c∈G,Few c) (hf1:Few c) (hv:v≤12) :
  Calls Tryz.prog 29 #[.slice A n cap,.slice A1 n1 ai5,.int .i64 (v:Int)] w fun e w'=>e=.returned (.bool (afB G c v))∧bJ w w':=by
 have hs:=hr.small;have HR:=zH hr;have HR1:=zH hr1;have HF:=zH hf;have HF1:=zH hf1;clear hr hf hr1 hf1;have hp:(2:Nat) ^ v≤2 ^ 12:=Nat.pow_le_pow_right (by decide) hv;obtain⟨P,hP⟩:∃ P,(2:Nat) ^ v=P:=⟨_,rfl⟩;have hP2:(2:Int) ^ v=(P:Int):=by rw[←hP];simp
 rw[hP] at hp;have HP:=zH hP;have hp':P≤4096:=by simpa using hp
 clear hp hP
 go_enter Tryz.func29,Tryz.ntmps29
 go_wp2
 go_loopw [7] (fun i wr=>∃ k:Nat,k≤P∧i=.int .i64 k∧Hid (∀ m,m<k→(allT (yX (m:Nat)) G&&!Ke (yX (m:Nat)) c)=false)∧Hid (bJ w wr)) (fun i _=>P-(intOf i).toNat)
 case atStart=>exact⟨0,Nat.zero_le _,rfl,(fun m hm=>absurd hm (Nat.not_lt_zero _):∀ m,m<0→(allT (yX (m:Nat)) G&&!Ke (yX (m:Nat)) c)=false),bJ.refl w⟩
 case round =>
  obtain⟨k,hk,rfl,HX,HD⟩:=hrel
  by_cases hkn:k<P
  ·have HC:=zH (Ui A n cap G k wr (HR.out.heap HD.out.heap) HF.out (by omega) (by omega));obtain⟨ta,Tp⟩:∃ tb,allT (yX (k:Nat)) G=tb:=⟨_,rfl⟩;rw[Tp] at HC;have k1:(k:Int)<(P:Int):=by omega
   have HKN:=zH hkn;have HTA:=zH Tp;clear Tp
   go_wp2_with fail
   refine HC.out.mono ?_
   rintro e w2 ⟨rfl,hd⟩
   have HD2:=zH (HD.out.trans hd);clear hd HC
   cases ta with
   | false =>
    have HX2:=zH (show ∀ m,m<k+1→(allT (yX (m:Nat)) G&&!Ke (yX (m:Nat)) c)=false from fun m hm=>by
     by_cases e:m=k
     ·subst e;rw[HTA.out];rfl
     ·exact HX.out m (by omega))
    go_wp2
    go_roundw
    case rel=>exact⟨k+1,by omega,by go_num,HX2.out,HD2.out⟩
    case measure=>simp[intOf];omega
   | true =>
    have UN:=zH (PS A1 n1 ai5 c k w2 (HR1.out.drawn HD2.out) HF1.out (by omega) (by omega));obtain⟨tb,htb⟩:∃ tb,Ke (yX (k:Nat)) c=tb:=⟨_,rfl⟩;rw[htb] at UN;have HTB:=zH htb;clear htb
    go_wp2_with fail
    refine UN.out.mono ?_
    rintro e w3 ⟨rfl,hd⟩
    have HD3:=zH (HD2.out.trans hd);clear hd UN
    cases tb with
    | true =>
     have HX2:=zH (show ∀ m,m<k+1→(allT (yX (m:Nat)) G&&!Ke (yX (m:Nat)) c)=false from fun m hm=>by
      by_cases e:m=k
      ·subst e;rw[HTB.out,HTA.out];rfl
      ·exact HX.out m (by omega))
     go_wp2
     go_roundw
     case rel=>exact⟨k+1,by omega,by go_num,HX2.out,HD3.out⟩
     case measure=>simp[intOf];omega
    | false =>
     go_wp2
     go_ret
     refine⟨fV ?_,HD3.out⟩;symm;unfold afB;rw[List.all_eq_false];exact⟨k,by rw[List.mem_range,HP.out];exact HKN.out,by rw[HTB.out,HTA.out];exact Bool.false_ne_true⟩
  ·obtain rfl:k=P:=by omega
   go_wp2
   go_ret
   refine⟨fV ?_,HD.out⟩;symm;unfold afB;rw[List.all_eq_true];intro m hm;rw[List.mem_range,HP.out] at hm;rw[HX.out m hm];rfl
end Go.Proofs.YthbbmdnfkkffjaaGreat
namespace Go.Proofs.YthbbmdnfkkffjaaGreat
open Go.RowKit Go.Proofs.aC Go.Proofs.aA
open Go.Proofs.au hiding SM
theorem ZY (n:Int):bits .and .i64 n 1=n % 2:=by
 have h1:(BitVec.ofInt 64 1).toNat=2 ^ 1-1:=by decide
 have key:(BitVec.ofInt 64 n &&& BitVec.ofInt 64 1).toNat=(n % ((2 ^ 64:Nat):Int)).toNat % 2 ^ 1:=by
  rw[BitVec.toNat_and,BitVec.toNat_ofInt,h1,Nat.and_two_pow_sub_one_eq_mod]
 show IntKind.i64.wrap ((BitVec.ofInt 64 n &&& BitVec.ofInt 64 1).toNat:Nat)=n % 2;rw[key,IntKind.wrap_i64];omega
def wT (a:Nat→Bool):Nat→Nat
 | 0=>0
 | v+1=>wT a v+(if a (v+1) then 2 ^ v else 0)
theorem He (a:Nat→Bool):∀ v,wT a v<2 ^ v
 | 0=>by simp[wT]
 | v+1=>by
  have:=He a v;unfold wT;rw[Nat.pow_succ]
  split <;> omega
theorem Kg (a:Nat→Bool):∀ (v k:Nat),k<v→wT a v/2 ^ k % 2=if a (k+1) then 1 else 0
 | 0,_,h=>absurd h (Nat.not_lt_zero _)
 | v+1,k,h=>by
  unfold wT;have hl:=He a v
  by_cases e:k=v
  ·subst e
   split
   ·rw[Nat.add_div_right _ (Nat.pos_of_ne_zero (by simp)),Nat.div_eq_of_lt hl]
   ·rw[Nat.add_zero,Nat.div_eq_of_lt hl]
  ·have ih:=Kg a v k (by omega)
   split
   ·have e2:(2:Nat) ^ v=2 ^ k*(2*2 ^ (v-k-1)):=by
     rw[←Nat.mul_assoc,Nat.mul_comm (2 ^ k) 2,←Nat.pow_succ',←Nat.pow_add]
     congr 1;omega
    rw[e2,Nat.add_mul_div_left _ _ (Nat.pos_of_ne_zero (by simp)),Nat.add_mul_mod_self_left];exact ih
   ·exact ih
theorem Z0 (a:Nat→Bool) {v k:Nat} (h0:0<k) (h:k≤v):yX (wT a v:Nat) k=a k:=by
 unfold yX;rw[ZY];have:=Kg a v (k-1) (by omega);rw[show k-1+1=k by omega] at this;have e:(wT a v:Int)/2 ^ (k-1) % 2=((wT a v/2 ^ (k-1) % 2:Nat):Int):=by simp
 rw[e,this]
 cases a k <;> simp
theorem Uj (b:Nat→Bool) {x:Int} (h:0<x.natAbs):Go.Proofs.au.AX b x=tr b (aJ x):=by
 rw[Bool.eq_iff_iff,vY b h];unfold Go.Proofs.au.AX;simp
theorem Z6 {G:List (List Int)} {v:Nat} (hG:∀ c∈G,∀ x∈c,0<x.natAbs∧x.natAbs≤v):Ci G v=true↔∃ a:Nat→Bool,∀ c∈G,∃ x∈c,tr a (aJ x)=true:=by
 unfold Ci;rw[List.any_eq_true]
 constructor
 ·rintro⟨n,_,h⟩
  refine⟨yX n,fun c hc=>?_⟩;obtain⟨x,hx,ht⟩:=LH.1 (List.all_eq_true.1 h c hc);exact⟨x,hx,by rw[←Uj _ (hG c hc x hx).1];exact ht⟩
 ·rintro⟨a,h⟩
  refine⟨wT a v,by rw[List.mem_range];exact He a v,List.all_eq_true.2 fun c hc=>LH.2 ?_⟩;obtain⟨x,hx,ht⟩:=h c hc;obtain⟨h1,h2⟩:=hG c hc x hx;refine⟨x,hx,?_⟩;rw[←Uj _ h1] at ht;unfold Go.Proofs.au.AX at ht ⊢;rw[Z0 a h1 h2];exact ht
theorem PU (A Ax:Option Addr) (n cap m cx:Nat) (G:List (List Int)) (xs:List Int) (v:Nat) (w:World) (hr:um w A n G) (hx:Rd w Ax m xs) (hG:∀ c∈G,Few c) (hX:Few xs) (hl:∀ c∈G,c.length≤100000) (hn:n≤600000) (hm:m≤1000) (hv:v≤12) :
  Calls Tryz.prog 24 #[.slice A n cap,.slice Ax m cx,.int .i64 v] w fun e w'=>e=.returned (.bool (Ci (G++xs.map fun x=>[x]) v))∧Below w.heap.size w w':=by
 have hGl:G.length=n:=hr.len;have hXl:xs.length=m:=hx.len;have HR:=zH hr;have HX:=zH hx
 have HCP:=zH (Iu A n cap G w hr (by omega) (fun j hj=>by
  have:=hl (gl G j) (by rw[jq _ _ (by omega)];exact List.getElem_mem _)
  omega))
 obtain⟨D,hD⟩:∃ D,(G++xs.map fun x=>[x])=D:=⟨_,rfl⟩
 have hDF:∀ c∈D,Few c:=fun c hc=>by
  rw[←hD] at hc;rcases List.mem_append.1 hc with k | k
  ·exact hG c k
  ·obtain⟨x,hm,rfl⟩:=List.mem_map.1 k;intro y hy;rw[List.mem_singleton] at hy;subst hy;exact hX y hm
 have hDl:∀ c∈D,c.length≤100000:=fun c hc=>by
  rw[←hD] at hc;rcases List.mem_append.1 hc with k | k
  ·exact hl c k
  ·obtain⟨x,hm,rfl⟩:=List.mem_map.1 k;simp
 have HDF:=zH hDF;have LX:=zH hDl;have HDD:=zH hD;have tO:=zH hXl;rw[hD];clear hr hx hG hX hl hDF hDl hGl hXl hD
 go_enter Tryz.func24,Tryz.ntmps24
 go_wp2_with fail
 refine HCP.out.mono ?_
 rintro e w1 ⟨a,c,W,rfl,hst,Z7,hWl⟩
 have H1:=zH hst;have Kh:=zH Z7;have jK:=zH hWl;clear hst Z7 hWl HCP
 go_wp2
 go_loopw [7,8] (fun v7 v8 wq=>∃ (k p:Nat) (a:Option Nat) (c:Nat) (W:vk),k≤m∧p=n+k∧v8=.int .i64 k∧v7=.slice (a.map fun b=>⟨b,0,none⟩) p c∧Hid (W.length=p)∧Hid (W.map (fun x=>x.2.2)=G++(xs.take k).map (fun a=>[a]))∧Hid (St w.heap.size w wq (star (bR 27 a c W) emp))) (fun _ v8 _=>m-(intOf v8).toNat)
 case atStart=>exact⟨0,n,a,c,W,Nat.zero_le _,rfl,rfl,rfl,jK.out,zH (by rw[Kh.out];simp),H1.out⟩
 case round =>
  clear H1 Kh jK;obtain⟨k,p,a,c,W,hk,rfl,rfl,rfl,jK,Kh,H1⟩:=hrel
  by_cases hkl:k<m
  ·have e5:decide ((k:Int)<(m:Int))=true:=by simp;omega
   obtain⟨rb,ro,rfl,hcc⟩:=(HX.out.grow H1.out.below).cells (by omega);have d4:=hcc k hkl;obtain⟨x,hx⟩:∃ x,gi xs k=x:=⟨_,rfl⟩;rw[hx] at d4;have hkx:k<xs.length:=by rw[tO.out];exact hkl
   have htk:(xs.take (k+1)).map (fun a=>[a])=(xs.take k).map (fun a=>[a])++[[x]]:=by rw[gV _ _ hkx,hx,List.map_append];rfl
   have qH:=zH htk
   have hb:=H1.out.nest (show St wr.heap.size wr (wr.alloc (.cells (ints [x]).toArray 3)) (bO 3 (some wr.heap.size) 1 [x]) from by
    have h1:St wr.heap.size wr (wr.alloc (.cells (ints [x]).toArray 3)) (star (pt wr.heap.size 3 (ints [x])) emp):=by
     have:=(St.start wr).iC (ints [x]).toArray 3;simpa using this
    have h3:St wr.heap.size wr (wr.alloc (.cells (ints [x]).toArray 3)) (star (sl (some wr.heap.size) 1 1 3 1 (ints [x])) emp):=⟨h1.below,h1.base,h1.sat.pO (by simp[ints]) (Nat.le_refl _) (by unfold maxLen;omega) (by simp[ints]) (by rw[Nat.mul_one,List.take_of_length_le (by simp[ints])])⟩;rw[aQ] at h3
    exact h3)
   have QX:=jg (hb.aB (show _=star (bR 27 a c W) (bO 3 (some wr.heap.size) 1 [x]) by rw[aQ];ac_rfl)) jK.out;have H14:=zH QX;have UD:=zH (show (wr.alloc (Obj.cells (ints [x]).toArray 3)).heap.size=wr.heap.size+1 by simp);have k0:(0:Int)≤(k:Int):=by omega
   have k1:(k:Int)<(m:Int):=by omega
   clear hcc hx hkx htk hb QX
   go_wp2_with (at_builtin;refine aO rfl _ _ 37 27 (.slice none 0 0) 24 rfl Tryz.underlying37 Tryz.jB rfl H14.out rfl (.slice (some ⟨wr.heap.size,0,none⟩) 1 1) (by exact congrArg (fun n=>Value.slice (some (⟨n,0,none⟩:Addr)) 1 1) UD.out.symm) rfl (by omega) (by simp only[maxLen];omega) ?_;intro b' c' w14 Qd;have H15:=zH Qd;clear Qd)
   have h16:=mh (F:=emp) (ka:=some wr.heap.size) (kc:=1) (l:=[x]) jK.out (H15.out.aB (by simp only[Option.map_some,List.length_singleton];rw[aQ];ac_rfl));have H16:=zH h16;clear h16
   go_wp2
   go_roundw
   case rel=>exact⟨k+1,n+k+1,some b',c',W++[(some wr.heap.size,1,[x])],by omega,by omega,by go_num,rfl,zH (by rw[List.length_append,jK.out];rfl),zH (by rw[List.map_append,Kh.out,qH.out,List.append_assoc];rfl),H16.out⟩
   case measure=>simp[intOf];omega
  ·obtain rfl:k=m:=by omega
   have e5:decide ((k:Int)<(k:Int))=false:=by simp
   have hwd:W.map (fun x=>x.2.2)=D:=by
    rw[Kh.out,List.take_of_length_le (by rw[tO.out];exact Nat.le_refl _)];exact HDD.out
   have hrd:=pF (H1.out.aB (show _=star (bR 27 a c W) emp from rfl)) (fun y hy=>by
    have hm:y.2.2∈D:=by rw[←hwd];exact List.mem_map.2 ⟨y,hy,rfl⟩
    have:=LX.out _ hm
    omega) (by rw[jK.out];omega)
   rw[jK.out,hwd] at hrd;have HCA:=zH (acv (a.map fun b=>⟨b,0,none⟩) (n+k) c D v wr hrd HDF.out hv);clear hwd hrd
   go_wp2_with fail
   refine HCA.out.mono ?_
   rintro e w9 ⟨rfl,hd⟩
   have HB:=zH (H1.out.below.trans ((hd.below _).mono H1.out.below.size));clear hd
   go_wp2
   go_ret
   exact⟨rfl,HB.out⟩
end Go.Proofs.YthbbmdnfkkffjaaGreat

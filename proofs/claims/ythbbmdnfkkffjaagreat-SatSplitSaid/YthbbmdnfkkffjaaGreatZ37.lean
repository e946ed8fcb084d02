/-
  Parts of the proof, joined by program: Store1, Store2, StoreM2.
-/
import Derived.Test.YthbbmdnfkkffjaaGreatZ36
import Derived.Deep.RegionHeld3
import Derived.Deep.RegionLaw
import Derived.BigRegion
namespace Go.Proofs.YthbbmdnfkkffjaaGreat
open Go.RowKit Go.Proofs.PlaitSep Go.Proofs.PlaitPure
theorem ret_slice {a:Option Addr} {n n' c c':Nat} (h:n=n') (h':c=c'):Ending.returned (.slice a n c)=.returned (.slice a n' c'):=by rw[h,h']
set_option maxHeartbeats 400000 in
theorem lit_any (l:Int) (w:World) :
  Calls Tryz.prog 100 #[.int .i64 l] w fun e w'=>e=.returned (.bool (litB l))∧w=w':=by
 cases hb:litB l
 all_goals
  have HB:=Lib.hid hb
  clear hb
  by_cases h1:l=0
  ·have hd1:(l != 0)=false:=by simpa using h1
   have H1:=Lib.hid h1
   clear h1
   go_enter Tryz.func100,Tryz.ntmps100
   go_wp2
   go_ret
   first | exact⟨rfl,rfl⟩ | (have:=litB_iff.1 HB.out;have:=H1.out;omega)
  ·have hd1:(l != 0)=true:=by simpa using h1
   have H1:=Lib.hid h1
   clear h1
   by_cases h2:-65536≤l
   ·have hd2:decide (-65536≤l)=true:=by simpa using h2
    by_cases h3:l≤65536
    ·have hd3:decide (l≤65536)=true:=by simpa using h3
     go_enter Tryz.func100,Tryz.ntmps100
     go_wp2
     go_ret
     first | exact⟨rfl,rfl⟩ | (have:=litB_iff.2 ⟨H1.out,h2,h3⟩;rw[HB.out] at this;cases this)
    ·have hd3:decide (l≤65536)=false:=by simpa using h3
     go_enter Tryz.func100,Tryz.ntmps100
     go_wp2
     go_ret
     first | exact⟨rfl,rfl⟩ | (have:=litB_iff.1 HB.out;omega)
   ·have hd2:decide (-65536≤l)=false:=by simpa using h2
    go_enter Tryz.func100,Tryz.ntmps100
    go_wp2
    go_ret
    first | exact⟨rfl,rfl⟩ | (have:=litB_iff.1 HB.out;omega)
theorem or_one (m:Nat):m ||| 1=if m % 2=0 then m+1 else m:=by
 have h1:(m ||| 1)/2=m/2:=by rw[Nat.or_div_two];simp
 have h2:(m ||| 1) % 2=1:=by rw[Nat.or_mod_two_eq_one];simp
 split <;> omega
theorem bits_or_one (m:Nat) (h:m<18446744073709551616):bits .or .u64 (m:Int) 1=((if m % 2=0 then m+1 else m:Nat):Int):=by
 have:=u64_or_nat m 1 h (by omega)
 rw[or_one] at this
 exact this
set_option maxHeartbeats 400000 in
theorem index_any (l:Int) (w:World) (h1:-65536≤l) (h2:l≤65536) :
  Calls Tryz.prog 101 #[.int .i64 l] w fun e w'=>e=.returned (.int .u64 (idx l:Nat))∧w=w':=by
 by_cases h3:l<0
 ·go_enter Tryz.func101,Tryz.ntmps101
  go_wp2
  go_ret
  refine⟨ret_int ?_,rfl⟩
  rw[show (-l*2:Int)=((2*(-l).toNat:Nat):Int) from by omega,bits_or_one _ (by omega),if_pos (by omega),idx,if_pos h3]
 ·go_enter Tryz.func101,Tryz.ntmps101
  go_wp2
  go_ret
  refine⟨ret_int ?_,rfl⟩
  rw[idx,if_neg (by omega)]
  omega
section
variable {B:Nat} {w0 w:World} {p:Nat} {L:SLay} {S:SM} {F:HP}
set_option maxHeartbeats 400000 in
theorem clause_any (ref:Nat) (h:StoreAt B w0 w p L S F) (hr:ref<S.cls.length) (hw:S.words.length≤262144) :
  Calls Tryz.prog 84 #[.pointer (some ⟨p,0,none⟩),.int .i64 ref] w fun e w' =>
   (∃ wb,L.wv=some wb∧e=.returned (.slice (some ⟨wb,S.begin ref,none⟩) ((S.cl ref).lits.length+2) ((S.cl ref).lits.length+2)))∧Drawn w w':=by
 have hbl:=S.begin_le hr
 obtain⟨_,hwc,_,hwn,_⟩:=(h.twords).sat.sl_facts
 obtain⟨_,_,_,hbn,_⟩:=(h.tbegins).sat.sl_facts
 obtain⟨wb,hwb⟩:∃ wb,L.wv=some wb:=by
  cases e:L.wv with
  | none=>have:=(hwn e).1;omega
  | some wb=>exact⟨wb,rfl⟩
 obtain⟨bb,hbb⟩:∃ bb,L.bv=some bb:=by
  cases e:L.bv with
  | none=>have:=(hbn e).1;rw[S.begins_length] at this;omega
  | some bb=>exact⟨bb,rfl⟩
 have hlen:=S.cls_length_le
 have c1:=h.tpt.pt_cell 1
 have c2:=h.tpt.pt_cell 2
 simp only[storeCells,slv,hwb,hbb,Option.map_some] at c1 c2
 obtain⟨n,hn⟩:∃ n,S.cls.length=n:=⟨_,rfl⟩
 obtain⟨bg,hbg⟩:∃ bg,S.begin ref=bg:=⟨_,rfl⟩
 obtain⟨k,hk⟩:∃ k,(S.cl ref).lits.length=k:=⟨_,rfl⟩
 obtain⟨m,hm⟩:∃ m,S.words.length=m:=⟨_,rfl⟩
 have e1:w.cell? ⟨bb,ref,none⟩=some (.int .i64 (bg:Nat)):=by
  have hh:=h.tbegins
  rw[hbb] at hh
  rw[St.sl_cell (h:=hh) ref (by rw[ints_length,S.begins_length];exact hr),ints_get _ _ (by rw[S.begins_length];exact hr),S.begins_at hr,hbg]
 have e2:ref+1<n→w.cell? ⟨bb,ref+1,none⟩=some (.int .i64 (bg+k+2:Nat)):=by
  intro hr2
  have hh:=h.tbegins
  rw[hbb] at hh
  rw[St.sl_cell (h:=hh) (ref+1) (by rw[ints_length,S.begins_length];omega),ints_get _ _ (by rw[S.begins_length];omega),S.begins_at (by omega),S.begin_succ hr,hbg,hk]
  rfl
 have hlast:ref+1=n→bg+k+2=m:=by
  intro e
  have h1:=S.begin_succ hr
  rw[S.begin_all (by omega),hm,hbg,hk] at h1
  omega
 rw[hbg,hk]
 rw[hn] at c2 hr hlen
 rw[hm] at c1 hw hbl hwc hlen
 rw[hbg,hk] at hbl
 have HWB:=Lib.hid hwb
 have HL:=Lib.hid hlast
 clear hbg hk hn hm hwb hbb hwn hbn hlast h
 by_cases hr2:ref+1<n
 ·have e2':=e2 hr2
  have hi1:((ref:Int)+1<(n:Int)):=by omega
  have hr1:(ref:Int)<(n:Int):=by omega
  have hr0:(0:Int)≤(ref:Int):=by omega
  clear e2
  go_enter Tryz.func84,Tryz.ntmps84
  go_wp2
  go_quiet (fail)
  go_wp2
  go_ret
  exact⟨⟨wb,HWB.out,ret_slice (by omega) (by omega)⟩,_,rfl⟩
 ·have hi1:¬ ((ref:Int)+1<(n:Int)):=by omega
  have hr1:(ref:Int)<(n:Int):=by omega
  have hr0:(0:Int)≤(ref:Int):=by omega
  have hbm:(bg:Int)≤(m:Int):=by omega
  have hbm':bg≠m:=by omega
  clear e2
  go_enter Tryz.func84,Tryz.ntmps84
  go_wp2
  go_quiet (fail)
  go_wp2
  have:=HL.out (by omega)
  go_ret
  exact⟨⟨wb,HWB.out,ret_slice (by omega) (by omega)⟩,_,rfl⟩
end
end Go.Proofs.YthbbmdnfkkffjaaGreat
namespace Go.Proofs.YthbbmdnfkkffjaaGreat
open Go.RowKit Go.Proofs.PlaitSep Go.Proofs.PlaitPure
theorem Tryz.infoInts:(Tryz.prog.info? 27).map (fun i=>(i.zero,i.size,i.bytes))=some (some (.slice none 0 0),1,24):=by kernel_rfl
theorem StoreAt.push {B:Nat} {w0 w:World} {p:Nat} {L:SLay} {S:SM} {F:HP} (hw:L.W.map (fun x=>x.2.2)=S.watches) {b' c':Nat}
  (h:St B w0 w (star (sl (some b') (L.W.length+1) c' 27 1 (outer L.W++[.slice none 0 0])) (star (star (pt p 116 (storeCells L S)) (star (sli 3 L.wv L.wc S.words) (star (sli 3 L.bv L.bc S.begins) (star (sli 3 L.sv L.sc S.short) (stars (inner L.W)))))) F))) :
  w.cell? ⟨p,3,none⟩=some (slv L.av L.W.length L.ac)∧w.frozen? ⟨p,3,none⟩=false ∧
  StoreAt B w0 (w.setCell ⟨p,3,none⟩ (.slice (some ⟨b',0,none⟩) (L.W.length+1) c')) p { L with av:=some b',ac:=c',W:=L.W++[(none,0,[])] } { S with watches:=S.watches++[[]] } F:=by
 have h1:St B w0 w (star (pt p 116 (storeCells L S)) (star (star (sl (some b') (L.W.length+1) c' 27 1 (outer L.W++[.slice none 0 0])) (star (sli 3 L.wv L.wc S.words) (star (sli 3 L.bv L.bc S.begins) (star (sli 3 L.sv L.sc S.short) (stars (inner L.W)))))) F)):=h.conseq (by ac_rfl)
 refine⟨by rw[h1.pt_cell 3];rfl,h1.pt_free 3,?_,by simp[hw]⟩
 refine (h1.pt_set 3 (.slice (some ⟨b',0,none⟩) (L.W.length+1) c')).conseq ?_
 unfold storeHP
 rw[inner_append,stars_append,outer_append]
 have e1:stars (inner [((none:Option Nat),0,([]:List Nat))])=emp:=by simp[inner,stars_one,natInts,sli_nil]
 have e2:(storeCells L S).set 3 (.slice (some ⟨b',0,none⟩) (L.W.length+1) c')=storeCells { L with av:=some b',ac:=c',W:=L.W++[(none,0,[])] } { S with watches:=S.watches++[[]] }:=by simp only[storeCells,slv,List.set_cons_succ,List.set_cons_zero,List.length_append,List.length_singleton,Option.map_some];rfl
 have e3:({ S with watches:=S.watches++[[]] }:SM).begins=S.begins:=rfl
 have e4:({ S with watches:=S.watches++[[]] }:SM).words=S.words:=rfl
 have e5:({ S with watches:=S.watches++[[]] }:SM).short=S.short:=rfl
 rw[e1,star_emp,e2,e3,e4,e5]
 simp only[List.length_append,List.length_singleton,outer,List.map_cons,List.map_nil,List.length_nil]
 simp only[show slv none 0 0=Value.slice none 0 0 from rfl]
 ac_rfl
theorem inner_get {W:List (Option Nat×Nat×List Nat)} {i:Nat} {x:Option Nat×Nat×List Nat} (h:W[i]?=some x):(inner W)[i]?=some (sli 3 x.1 x.2.1 (natInts x.2.2)):=by simp[inner,h]
theorem outer_get {W:List (Option Nat×Nat×List Nat)} {i:Nat} {x:Option Nat×Nat×List Nat} (h:W[i]?=some x):(outer W)[i]?=some (slv x.1 x.2.2.length x.2.1):=by simp[outer,h]
theorem inner_set {W:List (Option Nat×Nat×List Nat)} {i:Nat} (x:Option Nat×Nat×List Nat):inner (W.set i x)=(inner W).set i (sli 3 x.1 x.2.1 (natInts x.2.2)):=by simp[inner,List.map_set]
theorem outer_set {W:List (Option Nat×Nat×List Nat)} {i:Nat} (x:Option Nat×Nat×List Nat):outer (W.set i x)=(outer W).set i (slv x.1 x.2.2.length x.2.1):=by simp[outer,List.map_set]
def hole (p:Nat) (L:SLay) (S:SM) (i:Nat) (F:HP):HP :=
 star (star (pt p 116 (storeCells L S)) (star (sli 3 L.wv L.wc S.words) (star (sli 3 L.bv L.bc S.begins) (star (sl L.av L.W.length L.ac 27 1 (outer L.W)) (star (sli 3 L.sv L.sc S.short) (stars ((inner L.W).eraseIdx i))))))) F
theorem StoreAt.focus {B:Nat} {w0 w:World} {p:Nat} {L:SLay} {S:SM} {F:HP} (h:StoreAt B w0 w p L S F) {i:Nat} {x:Option Nat×Nat×List Nat} (hi:L.W[i]?=some x) :
  St B w0 w (star (sli 3 x.1 x.2.1 (natInts x.2.2)) (hole p L S i F)):=by
 refine h.st.conseq ?_
 unfold storeHP hole
 rw[(stars_set_split (inner_get hi) emp).1]
 ac_rfl
theorem hole_cells {B:Nat} {w0 w:World} {p:Nat} {L:SLay} {S:SM} {F:HP} {P:HP} {i ab:Nat} (h:St B w0 w (star P (hole p L S i F))) (ha:L.av=some ab) {x:Option Nat×Nat×List Nat} (hi:L.W[i]?=some x) :
  w.cell? ⟨p,3,none⟩=some (.slice (some ⟨ab,0,none⟩) L.W.length L.ac)∧w.cell? ⟨ab,i,none⟩=some (slv x.1 x.2.2.length x.2.1)∧w.frozen? ⟨ab,i,none⟩=false:=by
 have h1:St B w0 w (star (pt p 116 (storeCells L S)) (star P (star (star (sli 3 L.wv L.wc S.words) (star (sli 3 L.bv L.bc S.begins) (star (sl L.av L.W.length L.ac 27 1 (outer L.W)) (star (sli 3 L.sv L.sc S.short) (stars ((inner L.W).eraseIdx i)))))) F))):=h.conseq (by unfold hole;ac_rfl)
 have h2:St B w0 w (star (sl L.av L.W.length L.ac 27 1 (outer L.W)) (star P (star (star (pt p 116 (storeCells L S)) (star (sli 3 L.wv L.wc S.words) (star (sli 3 L.bv L.bc S.begins) (star (sli 3 L.sv L.sc S.short) (stars ((inner L.W).eraseIdx i)))))) F))):=h.conseq (by unfold hole;ac_rfl)
 rw[ha] at h2
 refine⟨by rw[h1.pt_cell 3];simp[storeCells,slv,ha],?_,h2.sl_free i⟩
 rw[h2.sl_cell i (by rw[outer_length];exact (List.getElem?_eq_some_iff.1 hi).1),outer_get hi]
theorem StoreAt.unfocus {B:Nat} {w0 w:World} {p:Nat} {L:SLay} {S:SM} {F:HP} {i ab:Nat} {a:Option Nat} {c:Nat} {l:List Nat} (h:St B w0 w (star (sli 3 a c (natInts l)) (hole p L S i F))) (hw:L.W.map (fun x=>x.2.2)=S.watches) (ha:L.av=some ab) (hi:i<L.W.length) :
  StoreAt B w0 (w.setCell ⟨ab,i,none⟩ (slv a l.length c)) p { L with W:=L.W.set i (a,c,l) } { S with watches:=S.watches.set i l } F:=by
 have h2:St B w0 w (star (sl L.av L.W.length L.ac 27 1 (outer L.W)) (star (sli 3 a c (natInts l)) (star (star (pt p 116 (storeCells L S)) (star (sli 3 L.wv L.wc S.words) (star (sli 3 L.bv L.bc S.begins) (star (sli 3 L.sv L.sc S.short) (stars ((inner L.W).eraseIdx i)))))) F))):=h.conseq (by unfold hole;ac_rfl)
 rw[ha] at h2
 refine⟨(h2.sl_set i (slv a l.length c) (by rw[outer_length];exact hi)).conseq ?_,by simp[List.map_set,hw]⟩
 obtain⟨x,hx⟩:∃ x,L.W[i]?=some x:=⟨L.W[i],by simp[hi]⟩
 unfold storeHP
 simp only[inner_set,outer_set,List.length_set]
 rw[(stars_set_split (inner_get hx) (sli 3 a c (natInts l))).2]
 have e2:storeCells { L with W:=L.W.set i (a,c,l) } { S with watches:=S.watches.set i l }=storeCells L S:=by simp only[storeCells,List.length_set];rfl
 have e3:({ S with watches:=S.watches.set i l }:SM).begins=S.begins:=rfl
 have e4:({ S with watches:=S.watches.set i l }:SM).words=S.words:=rfl
 have e5:({ S with watches:=S.watches.set i l }:SM).short=S.short:=rfl
 rw[e2,e3,e4,e5,ha]
 ac_rfl
section
variable {B:Nat} {w0 w:World} {p:Nat} {L:SLay} {S:SM} {F:HP}
set_option maxRecDepth 100000 in
set_option maxHeartbeats 1000000 in
theorem watch_any (l:Int) (ref:Nat) (h:StoreAt B w0 w p L S F) (h1:-65536≤l) (h2:l≤65536) (_hr:ref≤1000000) (hl:S.watches.length≤1000000) (hs:∀ x∈S.watches,x.length≤1000000) :
  Calls Tryz.prog 83 #[.pointer (some ⟨p,0,none⟩),.int .i64 l,.int .i64 ref] w fun e w' =>
   e=.returned (.tuple #[])∧∃ L',StoreAt B w0 w' p L' (S.watch l ref) F∧Hid (∀ j,j<L.W.length→j≠idx l→L'.W[j]?=L.W[j]?):=by
 have hi:=idx_le h1 h2
 have HI:Hid (S.watch l ref={ S with watches:=watchW S.watches (idx l) ref }):=rfl
 obtain⟨i,hii⟩:∃ i,idx l=i:=⟨_,rfl⟩
 have hix:=index_any l w h1 h2
 rw[hii] at hix hi
 have HII:=Lib.hid hii
 clear hii
 have HIX:=Lib.hid hix
 clear hix
 obtain⟨t,ht⟩:∃ t,topOf i=t+1:=⟨topOf i-1,by have:=lt_topOf i;omega⟩
 have hor:bits .or .u64 (i:Int) 1=(t:Int):=by
  rw[bits_or_one i (by omega)]
  unfold topOf at ht
  split at ht <;> simp_all
 have hti:i≤t:=by have:=lt_topOf i;omega
 have htb:t≤131074:=by unfold topOf at ht;split at ht <;> omega
 have HT:=Lib.hid ht
 clear ht
 have HS:=Lib.hid hs
 clear hs
 go_enter Tryz.func83,Tryz.ntmps83
 go_wp2_with (go_at_call 101;refine (HIX.out).mono ?_;rintro e w' ⟨rfl,rfl⟩)
 go_loopg [9] (t+1-S.watches.length) (fun g _ wr=>∃ (k:Nat) (L1:SLay),Hid (g=t+1-(S.watches.length+k))∧(k=0∨S.watches.length+k≤t+1)∧StoreAt B w0 wr p L1 { S with watches:=S.watches++List.replicate k [] } F∧Hid (∀ j,j<L.W.length→L1.W[j]?=L.W[j]?))
 case atStart=>exact⟨0,L,rfl,.inl rfl,by simpa using h,(fun _ _=>rfl:∀ j,j<L.W.length→L.W[j]?=L.W[j]?)⟩
 case round =>
  obtain⟨k,L1,hg,hk,hst,HLK⟩:=hrel
  have hlen:=hst.tlen
  rw[List.length_append,List.length_replicate] at hlen
  obtain⟨n,hn⟩:∃ n,L1.W.length=n:=⟨_,rfl⟩
  have c3:=hst.tpt.pt_cell 3
  simp only[storeCells,slv,hn] at c3
  have HN:=Lib.hid hn
  have HL:=Lib.hid hlen
  rw[hn] at hlen
  clear hn
  by_cases hlt:n≤t
  ·have hlt':(n:Int)≤(t:Int):=by omega
   have ho:=hst.touter
   rw[HN.out] at ho
   clear hlen
   go_wp2_with (at_builtin;refine wpList_append1 rfl _ _ 37 27 (.slice none 0 0) 24 rfl Tryz.underlying37 Tryz.infoInts rfl ho rfl (.slice none 0 0) rfl rfl (by omega) (by simp only[maxLen];omega) ?_;intro b' c' w' h2;have h3:=StoreAt.push (L:=L1) (S:={ S with watches:=S.watches++List.replicate k [] }) hst.ws (by rw[HN.out];exact h2);have c4:=h3.1;have f4:=h3.2.1;have hst4:=h3.2.2;clear h3 h2)
   go_roundg (t+1-(S.watches.length+(k+1)))
   case measure=>have:=hg.out;have:=HL.out;have:=HN.out;omega
   case rel =>
    refine⟨k+1,{ L1 with av:=some b',ac:=c',W:=L1.W++[(none,0,[])] },rfl,.inr (by have:=HL.out;have:=HN.out;omega),?_,?_⟩
    ·rw[HN.out] at hst4
     rw[List.replicate_succ']
     simpa [List.append_assoc] using hst4
    ·refine (fun j hj=>?_:∀ j,j<L.W.length→_)
     have h9:=HLK.out j hj
     rw[List.getElem?_append_left (by rw[List.getElem?_eq_getElem hj] at h9;exact (List.getElem?_eq_some_iff.1 h9).1)]
     exact h9
  ·have hlt':(t:Int)<(n:Int):=by omega
   have hnb:n≤3000000:=by omega
   clear hlen
   obtain⟨x,hx⟩:∃ x,L1.W[i]?=some x:=⟨L1.W[i]'(by rw[HN.out];omega),by simp⟩
   have hin:i<n:=by omega
   have hii:(i:Int)<(n:Int):=by omega
   obtain⟨ab,hab⟩:∃ ab,L1.av=some ab:=by
    obtain⟨_,_,_,hnone,_⟩:=hst.touter.sat.sl_facts
    cases e:L1.av with
    | none=>have:=(hnone e).1;have:=HN.out;omega
    | some ab=>exact⟨ab,rfl⟩
   have hfo:=hst.focus hx
   have hcs:=hole_cells hfo hab hx
   have hxl:x.2.2=(S.watches++List.replicate k []).getD i []:=by
    have:=hst.ws
    simp only at this
    rw[←this]
    simp[hx]
   have hxb:x.2.2.length≤1000000:=by
    rw[hxl,List.getD_eq_getElem?_getD,List.getElem?_append]
    split
    ·rename_i hh
     simp only[List.getElem?_eq_getElem hh,Option.getD_some]
     exact HS.out _ (List.getElem_mem hh)
    ·rw[List.getElem?_replicate];split <;> simp
   obtain⟨xa,xc,xl⟩:=x
   have HW:=Lib.hid hst.ws
   have HH:=Lib.hid hst
   obtain⟨m,hm⟩:∃ m,xl.length=m:=⟨_,rfl⟩
   have HM:=Lib.hid hm
   simp only[slv,hm] at hcs hxb
   rw[HN.out] at hcs
   obtain⟨d3,d4,d5⟩:=hcs
   clear hm c3 hst
   have hkeep:∀ (b' c':Nat) (w':World),St B w0 w' (star (sli 3 (some b') c' (natInts xl++[(ref:Int)])) (hole p L1 { S with watches:=S.watches++List.replicate k [] } i F)) →
     w'.cell? ⟨p,3,none⟩=some (.slice (some ⟨ab,0,none⟩) n L1.ac)∧w'.cell? ⟨ab,i,none⟩=some (.slice (xa.map fun b=>⟨b,0,none⟩) m xc)∧w'.frozen? ⟨ab,i,none⟩=false:=by
    intro b' c' w' h2
    have:=hole_cells h2 hab hx
    simp only[slv,HM.out] at this
    rw[HN.out] at this
    exact this
   have HK:=Lib.hid hkeep
   have hne:p≠ab:=by
    have h9:St B w0 wr (star (pt p 116 (storeCells L1 { S with watches:=S.watches++List.replicate k [] })) (star (sl (some ab) L1.W.length L1.ac 27 1 (outer L1.W)) (star (sli 3 xa xc (natInts xl)) (star (star (sli 3 L1.wv L1.wc { S with watches:=S.watches++List.replicate k [] }.words) (star (sli 3 L1.bv L1.bc { S with watches:=S.watches++List.replicate k [] }.begins) (star (sli 3 L1.sv L1.sc { S with watches:=S.watches++List.replicate k [] }.short) (stars ((inner L1.W).eraseIdx i))))) F)))):=hfo.conseq (by unfold hole;rw[hab];simp only[];ac_rfl)
    exact h9.sat.pt_sl_ne
   have hne':ab≠p:=Ne.symm hne
   have n1:=World.new_ne wr _ d3
   have n2:=World.new_ne wr _ d4
   have e3:∀ o,(wr.alloc o).cell? ⟨p,3,none⟩=some (.slice (some ⟨ab,0,none⟩) n L1.ac):=fun o=>(World.cell?_alloc_some _ _ _ (by rw[d3];rfl)).trans d3
   have e4:∀ o,(wr.alloc o).cell? ⟨ab,i,none⟩=some (.slice (xa.map fun b=>⟨b,0,none⟩) m xc):=fun o=>(World.cell?_alloc_some _ _ _ (by rw[d4];rfl)).trans d4
   have z2:ab<wr.heap.size:=World.block_lt_of_cell? wr _ d4
   clear hkeep
   go_wp2
   go_region_law ((refine step_append_int (by rfl) _ _ _ _ (by rfl) Tryz.underlying27 Tryz.infoInt (hfo.drew.alloc _) m (by rw[natInts_length];exact HM.out) (by rfl) _ (ref:Int) (by rfl) (by simp) (by omega) ?_;intro b' c' w1 h2;obtain⟨g3,g4,g5⟩:=HK.out _ _ _ h2))
   all_goals
    go_end0
    refine⟨rfl,{ L1 with W:=L1.W.set i (some b',c',xl++[ref]) },?_,?_⟩
    rotate_left
    ·refine (fun j hj hji=>?_:∀ j,j<L.W.length→j≠idx l→_)
     rw[HII.out] at hji
     rw[List.getElem?_set_ne (fun e=>hji e.symm)]
     exact HLK.out j hj
    have h9:=StoreAt.unfocus (p:=p) (L:=L1) (S:={ S with watches:=S.watches++List.replicate k [] }) (F:=F) (i:=i) (ab:=ab) (a:=some b') (c:=c') (l:=xl++[ref]) (by rw[show natInts (xl++[ref])=natInts xl++[(ref:Int)] from by simp[natInts]];exact h2) HW.out hab (by rw[HN.out];exact hin)
    have hk2:k=t+1-S.watches.length:=by have:=HL.out;have:=HN.out;omega
    rw[HI.out,HII.out]
    have hpad:padW S.watches (topOf i)=S.watches++List.replicate k []:=by rw[HT.out,padW,hk2]
    rw[show watchW S.watches i ref=(S.watches++List.replicate k []).set i (xl++[ref]) from by unfold watchW;rw[hpad,←hxl]]
    have hlen1:(xl++[ref]).length=m+1:=by have:=HM.out;simp;omega
    simp only[slv,hlen1,Option.map_some] at h9
    exact h9
end
end Go.Proofs.YthbbmdnfkkffjaaGreat
namespace Go.Proofs.PlaitPure
def Cl.setP (c:Cl) (i:Nat):Cl:=⟨i,c.q,c.lits⟩
def Cl.setQ (c:Cl) (i:Nat):Cl:=⟨c.p,i,c.lits⟩
def SM.put (S:SM) (ref:Nat) (c:Cl):SM:={ S with cls:=S.cls.set ref c }
theorem SM.put_length (S:SM) (ref:Nat) (c:Cl):(S.put ref c).cls.length=S.cls.length:=by simp[SM.put]
theorem SM.put_cl (S:SM) {ref:Nat} (c:Cl) (h:ref<S.cls.length) (i:Nat):(S.put ref c).cl i=if i=ref then c else S.cl i:=by
 unfold SM.cl SM.put
 simp only[List.getD_eq_getElem?_getD,List.getElem?_set]
 split
 ·rename_i e;subst e;simp
 ·rename_i e;rw[if_neg (fun x=>e x.symm)]
theorem flat_set_length {l:List Cl} {ref:Nat} {c:Cl} (hc:c.lits.length=(l.getD ref default).lits.length):((l.set ref c).flatMap Cl.words).length=(l.flatMap Cl.words).length:=by
 induction l generalizing ref with
 | nil=>simp
 | cons d l ih =>
  cases ref with
  | zero =>
   simp at hc
   simp only[List.set_cons_zero,List.flatMap_cons,List.length_append,Cl.words_length,hc]
  | succ ref =>
   simp only[List.set_cons_succ,List.flatMap_cons,List.length_append]
   rw[ih (by simpa using hc)]
theorem SM.put_words (S:SM) {ref:Nat} (c:Cl) (h:ref<S.cls.length):(S.put ref c).words=(S.cls.take ref).flatMap Cl.words++(c.words++(S.cls.drop (ref+1)).flatMap Cl.words):=by
 unfold SM.words SM.put
 rw[List.set_eq_take_append_cons_drop,if_pos h,List.flatMap_append,List.flatMap_cons]
def mineP (S:SM) (ref:Nat) (l:Int):Bool:=gi (S.cl ref).lits (S.cl ref).p==l
def otherOf (S:SM) (ref:Nat) (l:Int):Nat:=if mineP S ref l then (S.cl ref).q else (S.cl ref).p
def moveTo (S:SM) (ref:Nat) (l:Int) (i:Nat):SM:=if mineP S ref l then S.put ref ((S.cl ref).setP i) else S.put ref ((S.cl ref).setQ i)
def fits (R:RM) (lits:List Int) (q i:Nat):Bool:=(i != q)&&decide (0≤R.is (gi lits i))
def findNew (R:RM) (lits:List Int) (q:Nat):Option Nat:=(List.range lits.length).find? (fits R lits q)
structure Look where
 moved:Bool
 bad:Bool
 S:SM
 R:RM
def lookF (S:SM) (R:RM) (ref:Nat) (l:Int):Look :=
 let q:=otherOf S ref l
 let lits:=(S.cl ref).lits
 let first:=gi lits q
 if 0<R.is first then ⟨false,false,S,R⟩
 else match findNew R lits q with
  | some i=>⟨true,false,(moveTo S ref l i).watch (gi lits i) ref,R⟩
  | none=>if R.is first<0 then ⟨false,true,S,R⟩ else ⟨false,false,S,R.set first⟩
def SM.setW (S:SM) (i:Nat) (l:List Nat):SM:={ S with watches:=S.watches.set i l }
def SM.getW (S:SM) (i:Nat):List Nat:=S.watches.getD i []
def RM.lit (R:RM):Int:=- gi R.out R.next
def RM.step (R:RM):RM:={ R with next:=R.next+1 }
structure Cl.ok (c:Cl):Prop where
 lits:∀ x∈c.lits,litB x=true
 nodup:c.lits.Nodup
 apart:∀ x∈c.lits,-x∉c.lits
 p:2≤c.lits.length→c.p<c.lits.length
 q:2≤c.lits.length→c.q<c.lits.length
 pq:2≤c.lits.length→c.p≠c.q
def Cl.watches (c:Cl) (i:Nat):Prop:=2≤c.lits.length∧(idx (gi c.lits c.p)=i∨idx (gi c.lits c.q)=i)
structure SM.Inv (S:SM):Prop where
 most:S.most≤262144
 words:S.words.length≤S.most
 cl:∀ i,i<S.cls.length→(S.cl i).ok
 wlen:S.watches.length≤131074
 watch:∀ i ref,ref∈S.getW i↔ref<S.cls.length∧(S.cl ref).watches i
 nodup:∀ i,(S.getW i).Nodup
structure RM.Inv (R:RM):Prop where
 ok:R.ok
 lits:∀ x∈R.out,litB x=true
 pos:∀ l,litB l=true→(R.is l=1↔l∈R.out)
 next:R.next≤R.out.length
 nodup:R.out.Nodup
theorem RM.is_neg (R:RM) {l:Int} (h:l≠0):R.is (-l)=- R.is l:=by
 unfold RM.is
 by_cases h1:l<0
 ·rw[if_pos h1,if_neg (by omega)];simp
 ·rw[if_neg h1,if_pos (by omega)];simp
theorem litB_neg {l:Int} (h:litB l=true):litB (-l)=true:=by
 rw[litB_iff] at h ⊢;omega
theorem RM.is_range {R:RM} (h:R.ok) (l:Int):-1≤R.is l∧R.is l≤1:=by
 unfold RM.is
 split
 ·have:=h.val (-l).toNat;omega
 ·exact h.val l.toNat
theorem RM.Inv.neg {R:RM} (h:R.Inv) {l:Int} (hl:litB l=true):R.is l=-1↔-l∈R.out:=by
 rw[←h.pos (-l) (litB_neg hl),R.is_neg (litB_iff.1 hl).1]
 omega
theorem RM.Inv.zero {R:RM} (h:R.Inv) {l:Int} (hl:litB l=true):R.is l=0↔l∉R.out∧-l∉R.out:=by
 rw[←h.pos l hl,←h.neg hl]
 have:=R.is_range h.ok l
 omega
theorem RM.Inv.apart {R:RM} (h:R.Inv) {l:Int} (hl:l∈R.out):-l∉R.out:=by
 have h1:=h.lits l hl
 intro h2
 have:=(h.pos l h1).2 hl
 have:=(h.neg h1).2 h2
 omega
theorem nodup_bound:∀ (n:Nat) (l:List Nat),l.Nodup→(∀ x∈l,x<n)→l.length≤n
 | 0,l,_,hb=>by
  cases l with
  | nil=>simp
  | cons x r=>have:=hb x (by simp);omega
 | n+1,l,h,hb=>by
  by_cases hm:n∈l
  ·have h1:=nodup_bound n (l.erase n) (h.erase n) (fun x hx=>by
    have:=(h.mem_erase_iff).1 hx
    have:=hb x this.2
    omega)
   rw[List.length_erase_of_mem hm] at h1
   omega
  ·have h1:=nodup_bound n l h (fun x hx=>by
    have:=hb x hx
    have:x≠n:=fun e=>hm (e▸hx)
    omega)
   omega
theorem RM.Inv.vars {R:RM} (h:R.Inv):(R.out.map Int.natAbs).Nodup:=by
 have key:∀ l:List Int,l.Nodup→(∀ x∈l,-x∉l)→(∀ x∈l,x≠0)→(l.map Int.natAbs).Nodup:=by
  intro l
  induction l with
  | nil=>intros;simp
  | cons a r ih =>
   intro hn ha h0
   rw[List.map_cons,List.nodup_cons]
   rw[List.nodup_cons] at hn
   refine⟨fun hm=>?_,ih hn.2 (fun x hx hx'=>ha x (by simp[hx]) (by simp[hx'])) (fun x hx=>h0 x (by simp[hx]))⟩
   obtain⟨b,hb,he⟩:=List.mem_map.1 hm
   rcases Int.natAbs_eq_natAbs_iff.1 he with e | e
   ·exact hn.1 (e▸hb)
   ·exact ha a (by simp) (by rw[←e];simp[hb])
 exact key _ h.nodup (fun x hx=>h.apart hx) (fun x hx=>(litB_iff.1 (h.lits x hx)).1)
theorem RM.Inv.room {R:RM} (h:R.Inv):R.out.length≤65537:=by
 have:=nodup_bound 65537 _ h.vars (fun x hx=>by
  obtain⟨b,hb,rfl⟩:=List.mem_map.1 hx
  have:=litB_iff.1 (h.lits b hb)
  omega)
 simpa using this
theorem gi_set_eq {xs:List Int} {k:Nat} {v:Int} (h:k<xs.length):gi (xs.set k v) k=v:=by simp[gi,List.getD_eq_getElem?_getD,h]
theorem gi_set_ne {xs:List Int} {k i:Nat} {v:Int} (h:k≠i):gi (xs.set k v) i=gi xs i:=by simp[gi,List.getD_eq_getElem?_getD,h]
theorem RM.set_is {R:RM} (ho:R.ok) {l:Int} (hl:litB l=true) (x:Int) (hx:litB x=true):(R.set l).is x=if x=l then 1 else if x=-l then -1 else R.is x:=by
 have h1:=litB_iff.1 hl
 have h2:=litB_iff.1 hx
 have hlen:=ho.len
 unfold RM.is RM.set
 simp only
 by_cases hl0:l<0
 ·rw[if_pos hl0]
  by_cases hx0:x<0
  ·rw[if_pos hx0,if_pos hx0]
   by_cases he:x=l
   ·subst he
    rw[if_pos rfl,gi_set_eq (by omega)]
    rfl
   ·rw[if_neg he,if_neg (by omega),gi_set_ne (by omega)]
  ·rw[if_neg hx0,if_neg hx0]
   by_cases he:x=-l
   ·rw[if_neg (by omega),if_pos he,he,gi_set_eq (by omega)]
   ·rw[if_neg (by omega),if_neg he,gi_set_ne (by omega)]
 ·rw[if_neg hl0]
  by_cases hx0:x<0
  ·rw[if_pos hx0,if_pos hx0]
   by_cases he:x=-l
   ·rw[if_neg (by omega),if_pos he,he]
    rw[show (- -l).toNat=l.toNat from by simp,gi_set_eq (by omega)]
   ·rw[if_neg (by omega),if_neg he,gi_set_ne (by omega)]
  ·rw[if_neg hx0,if_neg hx0]
   by_cases he:x=l
   ·subst he
    rw[if_pos rfl,gi_set_eq (by omega)]
   ·rw[if_neg he,if_neg (by omega),gi_set_ne (by omega)]
theorem RM.Inv.set {R:RM} (h:R.Inv) {l:Int} (hl:litB l=true) (h0:R.is l=0):(R.set l).Inv:=by
 have hz:=(h.zero hl).1 h0
 have hr:=h.room
 have hout:(R.set l).out=R.out++[l]:=rfl
 refine⟨R.set_ok h.ok l (by omega),?_,?_,?_,?_⟩
 ·intro x hx
  rw[hout] at hx
  rcases List.mem_append.1 hx with hx | hx
  ·exact h.lits x hx
  ·rw[List.mem_singleton.1 hx];exact hl
 ·intro x hx
  have:=(litB_iff.1 hl).1
  rw[RM.set_is h.ok hl x hx,hout,List.mem_append,List.mem_singleton]
  by_cases he:x=l
  ·simp[he]
  ·rw[if_neg he]
   by_cases he':x=-l
   ·rw[if_pos he']
    constructor
    ·intro e;omega
    ·rintro (e | e)
     ·rw[he'] at e;exact absurd e hz.2
     ·exact absurd e he
   ·rw[if_neg he',h.pos x hx]
    constructor
    ·exact fun e=>.inl e
    ·rintro (e | e)
     ·exact e
     ·exact absurd e he
 ·rw[hout]
  have:=h.next
  show R.next≤_
  simp;omega
 ·rw[hout]
  rw[List.nodup_append]
  refine⟨h.nodup,by simp,?_⟩
  intro a ha b hb e
  rw[List.mem_singleton.1 hb] at e
  exact hz.1 (e▸ha)
end Go.Proofs.PlaitPure

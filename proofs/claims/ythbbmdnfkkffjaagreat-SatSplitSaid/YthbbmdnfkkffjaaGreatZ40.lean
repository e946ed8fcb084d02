/-
  Parts of the proof, joined by program: Sat1, Bytes, ByteM, Rws, Cop.
-/
import Derived.Test.YthbbmdnfkkffjaaGreatZ35
import Derived.Test.YthbbmdnfkkffjaaGreatZ39
import Derived.Test.YthbbmdnfkkffjaaGreatZ02
import Derived.Test.YthbbmdnfkkffjaaGreatZ01
import Derived.Test.YthbbmdnfkkffjaaGreatZ34
import Derived.Deep.Slices
namespace Go.Proofs.YthbbmdnfkkffjaaGreat
open Go.RowKit Go.Proofs.PlaitSep Go.Proofs.PlaitSat
open Go.Proofs.PlaitPure hiding SM
def SatI (B:Nat) (w0 w:World) (q:Nat) (S:SM) (F:HP):Prop:=∃ p M,At B w0 w p M (star (pt q 67 [.pointer (some ⟨p,0,none⟩)]) F)∧M.sv=S
def satAdd (S:SM) (xs:List Int):SM×Int :=
 if onceE xs=0 then (if (S.add (onceL xs)).2 then ((S.add (onceL xs)).1,0) else ((S.add (onceL xs)).1,111)) else (S,onceE xs)
def satSolve (S:SM) (xs:List Int):SM×Int×Int:=if xs.all litB then S.solve xs else (S,0,130)
section
variable {B:Nat} {w0 w:World} {q:Nat} {S:SM} {F:HP}
theorem SatI.c {p:Nat} {M:MM} (h:At B w0 w p M (star (pt q 67 [.pointer (some ⟨p,0,none⟩)]) F)):w.cell? ⟨q,0,none⟩=some (.pointer (some ⟨p,0,none⟩)):=(h.box_cell 0).1
theorem SatI.nest {w':World} {P:HP} (h:SatI B w0 w q S F) (k:St w.heap.size w w' P):SatI B w0 w' q S (star P F):=by
 obtain⟨p,M,h1,h2⟩:=h
 exact⟨p,M,(h1.nest k).frame (by ac_rfl),h2⟩
theorem SatI.drop {P:HP} (h:SatI B w0 w q S (star P F)):SatI B w0 w q S F:=by
 obtain⟨p,M,h1,h2⟩:=h
 exact⟨p,M,(h1.frame (show _=star P (star (pt q 67 [.pointer (some ⟨p,0,none⟩)]) F) by ac_rfl)).dropF,h2⟩
theorem SatI.drawn {w':World} (h:SatI B w0 w q S F) (d:Drawn w w'):SatI B w0 w' q S F:=by
 obtain⟨p,M,h1,h2⟩:=h
 exact⟨p,M,h1.drawn d,h2⟩
theorem Stays.own (t:TypeId) (a:Option Nat) (c:Nat) (xs:List Int) (F:HP) (hs:xs.length≤1000000):Stays B w0 (star (sli t a c xs) F) (a.map fun b=>⟨b,0,none⟩) xs.length xs:=fun w P k =>
 St.rd (k.conseq (show _=star (sli t a c xs) (star P F) by ac_rfl)) (by omega)
set_option maxRecDepth 100000 in
set_option maxHeartbeats 2000000 in
theorem satNew_any (a b:Int) (w:World) :
  Calls Tryz.prog 17 #[.int .i64 a,.int .i64 b] w fun e w'=>∃ q,e=.returned (.pointer (some ⟨q,0,none⟩))∧SatI w.heap.size w w' q (Go.Proofs.PlaitSat.SM.new a b) emp:=by
 go_enter Tryz.func17,Tryz.ntmps17
 go_wp2_with fail
 refine (SNew_any a b w).mono ?_
 rintro e w1 ⟨p,M,rfl,h1,h2⟩
 have H:=Lib.hid (show SatI w.heap.size w (w1.alloc (Obj.cells #[.pointer (some ⟨p,0,none⟩)] 67)) w1.heap.size (Go.Proofs.PlaitSat.SM.new a b) emp from⟨p,M,h1.box _ _,h2⟩)
 clear h1 h2
 go_wp2
 go_ret
 exact⟨w1.heap.size,rfl,H.out⟩
set_option maxRecDepth 100000 in
set_option maxHeartbeats 2000000 in
theorem satAdd_any (A:Option Addr) (n c:Nat) (xs:List Int) (h:SatI B w0 w q S F) (hr:Rd w A n xs) (hn:n≤200000) (hok:onceE xs=0→AdOk S (onceL xs)) :
  Calls Tryz.prog 18 #[.pointer (some ⟨q,0,none⟩),.slice A n c] w fun e w'=>e=.returned (.int .i64 (satAdd S xs).2)∧SatI B w0 w' q (satAdd S xs).1 F:=by
 have HO:=Lib.hid (sonce_any A n c xs w hr hn)
 have H:=Lib.hid h
 have HK:=Lib.hid hok
 have hl:(onceL xs).length≤200000:=by have h1:=onceOut_le xs [];have h2:=hr.len;show (onceOut [] xs).length≤_;simp at h1;omega
 have HL:=Lib.hid hl
 clear h hok hr hl
 go_enter Tryz.func18,Tryz.ntmps18
 go_wp2_with fail
 refine HO.out.mono ?_
 rintro e w1 hp
 by_cases h0:onceE xs=0
 ·obtain⟨a,c',he,h1⟩:=hp.1 h0
  subst he
  obtain⟨p,M,h2,h3⟩:=H.out.nest h1
  have h4:=h2.frame (show _=star (sli 3 a c' (onceL xs)) (star (pt q 67 [.pointer (some ⟨p,0,none⟩)]) F) by ac_rfl)
  have k0:w1.cell? ⟨q,0,none⟩=some (.pointer (some ⟨p,0,none⟩)):=SatI.c h2
  obtain⟨ln,hln⟩:∃ n,(onceL xs).length=n:=⟨_,rfl⟩
  have hst:Stays B w0 (star (sli 3 a c' (onceL xs)) (star (pt q 67 [.pointer (some ⟨p,0,none⟩)]) F)) (a.map fun b=>⟨b,0,none⟩) ln (onceL xs):=by rw[←hln];exact Stays.own _ _ _ _ _ (by have:=HL.out;omega)
  have hs:=SAdd_any _ ln c' (onceL xs) h4 hst (by rw[h3];exact HK.out h0)
  rw[h3] at hs
  have HS:=Lib.hid hs
  have H0:=Lib.hid h0
  have hsa:satAdd S xs=if (S.add (onceL xs)).2 then ((S.add (onceL xs)).1,0) else ((S.add (onceL xs)).1,111):=by unfold satAdd;rw[if_pos h0]
  obtain⟨R,hR⟩:∃ R,S.add (onceL xs)=R:=⟨_,rfl⟩
  rw[hR] at hsa HS
  obtain⟨rb,hrb⟩:∃ b,R.2=b:=⟨_,rfl⟩
  rw[hrb] at hsa HS
  have HSA:=Lib.hid hsa
  unfold slv
  rw[hln]
  clear h1 h2 h3 h4 hst hs hsa hR hrb hp h0 HO hln
  go_wp2_with fail
  refine HS.out.mono ?_
  rintro e w2 ⟨rfl,M2,h5,h6⟩
  have HF:=Lib.hid (show SatI B w0 w2 q R.1 F from⟨p,M2,h5.dropF,h6⟩)
  clear h5 h6 HS
  cases rb with
  | true =>
   go_wp2
   go_ret
   exact⟨by rw[HSA.out];rfl,by rw[HSA.out];exact HF.out⟩
  | false =>
   go_wp2
   go_ret
   exact⟨by rw[HSA.out];rfl,by rw[HSA.out];exact HF.out⟩
 ·obtain⟨he,h1⟩:=hp.2 h0
  subst he
  have h2:=(H.out.nest h1).drop
  have hsa:satAdd S xs=(S,onceE xs):=by unfold satAdd;rw[if_neg h0]
  obtain⟨er,her⟩:∃ e,onceE xs=e:=⟨_,rfl⟩
  rw[her] at hsa h0 ⊢
  have e4:decide (er=0)=false:=by simpa using h0
  have HSA:=Lib.hid hsa
  have H2:=Lib.hid h2
  clear h1 h2 hsa her hp HO
  go_wp2
  go_ret
  exact⟨by rw[HSA.out];rfl,by rw[HSA.out];exact H2.out⟩
set_option maxRecDepth 100000 in
set_option maxHeartbeats 2000000 in
theorem satSolve_any (A:Option Addr) (na ca:Nat) (xs:List Int) (h:SatI B w0 w q S F) (hst:Stays B w0 F A na xs) (hok:xs.all litB=true→SvOk S xs) :
  Calls Tryz.prog 19 #[.pointer (some ⟨q,0,none⟩),.slice A na ca] w fun e w'=>e=.returned (.tuple #[.int .i64 (satSolve S xs).2.1,.int .i64 (satSolve S xs).2.2])∧SatI B w0 w' q (satSolve S xs).1 F:=by
 obtain⟨p,M,h1,h2⟩:=h
 have hna:xs.length=na:=(At.rd hst h1).len
 have hnb:na≤140737488355328:=(At.rd hst h1).small
 have H:=Lib.hid h1
 have HS:=Lib.hid h2
 have HST:=Lib.hid hst
 have HNA:=Lib.hid hna
 have HOK:=Lib.hid hok
 clear h1 h2 hst hna hok
 go_enter Tryz.func19,Tryz.ntmps19
 go_wp2
 go_step3
 go_wp2
 go_step3
 go_wp2
 go_loopg [10] na (fun g s10 wr=>∃ (k:Nat),s10=.int .i64 k∧k≤na∧Hid (g=na-k)∧Hid (At B w0 wr p M (star (pt q 67 [.pointer (some ⟨p,0,none⟩)]) F))∧Hid (∀ x∈xs.take k,litB x=true))
 case atStart=>exact⟨0,rfl,Nat.zero_le _,rfl,H.out,Lib.hid (by simp)⟩
 case round =>
  obtain⟨k,rfl,hkn,hg,H1,HL⟩:=hrel
  by_cases hkl:k<na
  ·have e1:decide ((k:Int)<(na:Int))=true:=by simp;omega
   obtain⟨b,o,rfl,hc⟩:=(At.rd HST.out H1.out).cells (by omega)
   obtain⟨a,ha⟩:∃ a,gi xs k=a:=⟨_,rfl⟩
   have k3:=hc k hkl
   rw[ha] at k3
   have hkx:k<xs.length:=by rw[HNA.out];exact hkl
   have htk:xs.take (k+1)=xs.take k++[a]:=by rw[List.take_succ_eq_append_getElem hkx,←gi_eq _ _ hkx,ha]
   have ham:a∈xs:=by rw[←ha,gi_eq _ _ hkx];exact List.getElem_mem hkx
   have HTK:=Lib.hid htk
   have HAM:=Lib.hid ham
   have p0:(0:Int)≤(k:Int):=by omega
   have p1:(k:Int)<(na:Int):=by omega
   clear hc ha hkx htk ham
   by_cases hb:litB a=true
   ·obtain⟨b1,b2,b3⟩:=litB_iff.1 hb
    have e2:decide (a=0)=false:=by simpa using b1
    have e3:decide ((-65536:Int)≤a)=true:=by simpa using b2
    have e4:decide (a≤(65536:Int))=true:=by simpa using b3
    have HB:=Lib.hid hb
    clear hb
    go_wp2
    try (go_step3;go_wp2)
    go_roundg (na-(k+1))
    case measure=>have:=hg.out;omega
    case rel=>exact⟨k+1,by go_num,by omega,rfl,H1.out,Lib.hid (fun x hx=>by
     rw[HTK.out] at hx
     rcases List.mem_append.1 hx with h1 | h1
     ·exact HL.out x h1
     ·simp at h1;rw[h1];exact HB.out)⟩
   ·have hall:¬ xs.all litB=true:=fun h=>hb (List.all_eq_true.1 h a HAM.out)
    have HSS:=Lib.hid (show satSolve S xs=(S,0,130) by unfold satSolve;rw[if_neg hall])
    have hnb:a=0∨¬ (-65536:Int)≤a∨¬ a≤65536:=by
     by_cases h0:a=0
     ·exact .inl h0
     ·by_cases h1:(-65536:Int)≤a
      ·by_cases h2:a≤65536
       ·exact absurd (litB_iff.2 ⟨h0,h1,h2⟩) hb
       ·exact .inr (.inr h2)
      ·exact .inr (.inl h1)
    clear hall hb
    rcases hnb with h0 | h0 | h0
    ·have e2:decide (a=0)=true:=by simpa using h0
     go_wp2
     try rw[Exit.noGoto_ret]
     go_ret2
     exact⟨by rw[HSS.out];rfl,by rw[HSS.out];exact⟨p,M,H1.out,HS.out⟩⟩
    ·have e2:decide (a=0)=false:=by simp;omega
     have e3:decide ((-65536:Int)≤a)=false:=by simpa using h0
     go_wp2
     try rw[Exit.noGoto_ret]
     go_ret2
     exact⟨by rw[HSS.out];rfl,by rw[HSS.out];exact⟨p,M,H1.out,HS.out⟩⟩
    ·have e2:decide (a=0)=false:=by simp;omega
     have e3:decide ((-65536:Int)≤a)=true:=by simp;omega
     have e4:decide (a≤(65536:Int))=false:=by simpa using h0
     go_wp2
     try rw[Exit.noGoto_ret]
     go_ret2
     exact⟨by rw[HSS.out];rfl,by rw[HSS.out];exact⟨p,M,H1.out,HS.out⟩⟩
  ·obtain rfl:k=na:=by omega
   have e1:decide ((k:Int)<(k:Int))=false:=by simp
   have hall:xs.all litB=true:=List.all_eq_true.2 (fun x hx=>HL.out x (by rw[List.take_of_length_le (by rw[HNA.out];exact Nat.le_refl _)];exact hx))
   have HSS:=Lib.hid (show satSolve S xs=S.solve xs by unfold satSolve;rw[if_pos hall])
   have hsv:=Solve_any A k ca xs H1.out (Stays.more HST.out _) (by rw[HS.out];exact HOK.out hall)
   rw[HS.out] at hsv
   have HSV:=Lib.hid hsv
   have k0:=SatI.c H1.out
   clear hall hsv hg
   go_wp2_with fail
   refine HSV.out.mono ?_
   rintro e w2 ⟨rfl,M2,h2,h3⟩
   have HF:=Lib.hid (show SatI B w0 w2 q (S.solve xs).1 F from⟨p,M2,h2,h3⟩)
   clear h2 h3 HSV k0
   go_wp2
   try rw[Exit.noGoto_ret]
   go_ret2
   exact⟨by rw[HSS.out];rfl,by rw[HSS.out];exact HF.out⟩
set_option maxRecDepth 100000 in
set_option maxHeartbeats 2000000 in
theorem satValue_any (v:Int) (h:SatI B w0 w q S F) (hl:S.model.length≤1000000) :
  Calls Tryz.prog 21 #[.pointer (some ⟨q,0,none⟩),.int .i64 v] w fun e w'=>e=.returned (.bool (decide (0<v)&&decide (v<S.model.length)&&gB S.model v.toNat))∧Drawn w w':=by
 obtain⟨p,M,h1,h2⟩:=h
 have hv:=SValue_any v h1 (by rw[h2];exact hl)
 rw[h2] at hv
 have k0:=SatI.c h1
 have HV:=Lib.hid hv
 clear h1 h2 hv hl
 go_enter Tryz.func21,Tryz.ntmps21
 go_wp2_with fail
 refine HV.out.mono ?_
 rintro e w2 ⟨rfl,hd⟩
 have HD:=Lib.hid hd
 clear hd HV
 go_wp2
 go_ret
 exact⟨rfl,HD.out⟩
set_option maxRecDepth 100000 in
set_option maxHeartbeats 2000000 in
theorem satWords_any (h:SatI B w0 w q S F) :
  Calls Tryz.prog 37 #[.pointer (some ⟨q,0,none⟩)] w fun e w'=>e=.returned (.int .i64 (S.words:Nat))∧w=w':=by
 obtain⟨p,M,h1,h2⟩:=h
 have k0:=SatI.c h1
 have hw:=SWords_any h1
 rw[show M.words=S.words from congrArg Go.Proofs.PlaitSat.SM.words h2] at hw
 have HW:=Lib.hid hw
 clear h1 h2 hw
 go_enter Tryz.func37,Tryz.ntmps37
 go_wp2_with fail
 refine HW.out.mono ?_
 rintro e w2 ⟨rfl,rfl⟩
 go_wp2
 go_ret
 exact⟨rfl,rfl⟩
set_option maxRecDepth 100000 in
set_option maxHeartbeats 2000000 in
theorem satCore_any (h:SatI B w0 w q S F) (hl:S.core.length≤1000000) :
  Calls Tryz.prog 22 #[.pointer (some ⟨q,0,none⟩)] w fun e w'=>∃ a c',e=.returned (slv a S.core.length c')∧St w.heap.size w w' (sli 3 a c' S.core):=by
 obtain⟨p,M,h1,h2⟩:=h
 have k0:=SatI.c h1
 have hc:=SCore_any h1 (by show M.sv.core.length≤_;rw[h2];exact hl)
 rw[h2] at hc
 have HC:=Lib.hid hc
 clear h1 h2 hc hl
 go_enter Tryz.func22,Tryz.ntmps22
 go_wp2_with fail
 refine HC.out.mono ?_
 rintro e w2 ⟨a,c',rfl,h3⟩
 have H3:=Lib.hid h3
 clear h3 HC
 go_wp2
 go_ret
 exact⟨a,c',rfl,H3.out⟩
end
end Go.Proofs.YthbbmdnfkkffjaaGreat
namespace Go.Proofs.PlaitSep
open Go Go.RowKit Go.Proofs.PlaitPure
structure RdB (w:World) (A:Option Addr) (n:Nat) (xs:List Int):Prop where
 len:xs.length=n
 small:n≤140737488355328
 cells:0<n→∃ b o,A=some ⟨b,o,none⟩∧∀ j,j<n→w.cell? ⟨b,o+j,none⟩=some (.int .u8 (gi xs j))
theorem RdB.grow {w w':World} {A:Option Addr} {n:Nat} {xs:List Int} (h:RdB w A n xs) (hb:Below w.heap.size w w'):RdB w' A n xs:=by
 refine⟨h.len,h.small,fun hn=>?_⟩
 obtain⟨b,o,e,hc⟩:=h.cells hn
 refine⟨b,o,e,fun j hj=>?_⟩
 have:=World.block_lt_of_cell? w _ (hc j hj)
 rw[←hc j hj]
 exact hb.cell this
theorem RdB.heap {w w':World} {A:Option Addr} {n:Nat} {xs:List Int} (h:RdB w A n xs) (e:w'.heap=w.heap):RdB w' A n xs :=
 ⟨h.len,h.small,fun hn=>by
  obtain⟨b,o,ee,hc⟩:=h.cells hn
  exact⟨b,o,ee,fun j hj=>by rw[←hc j hj];simp[World.cell?,e]⟩⟩
theorem RdB.cell {w:World} {b o n:Nat} {xs:List Int} (h:RdB w (some ⟨b,o,none⟩) n xs) {k:Nat} (hk:k<n):w.cell? ⟨b,o+k,none⟩=some (.int .u8 (gi xs k)):=by
 obtain⟨b',o',e,hc⟩:=h.cells (by omega)
 obtain⟨rfl,rfl⟩:b=b'∧o=o':=by simpa using e
 exact hc k hk
def byts (xs:List Int):List Value:=xs.map (Value.int .u8)
@[simp] theorem byts_length (xs:List Int):(byts xs).length=xs.length:=by simp[byts]
theorem byts_get (xs:List Int) (i:Nat) (h:i<xs.length):(byts xs)[i]?=some (.int .u8 (gi xs i)):=by
 simp[byts,gi,List.getElem?_map,List.getElem?_eq_getElem h]
theorem byts_append (xs ys:List Int):byts (xs++ys)=byts xs++byts ys:=by simp[byts]
def slb (t:TypeId) (a:Option Nat) (c:Nat) (xs:List Int):HP:=sl a xs.length c t 1 (byts xs)
theorem St.rdB {B:Nat} {w0 w:World} {t:TypeId} {a:Option Nat} {c:Nat} {xs:List Int} {F:HP} (h:St B w0 w (star (slb t a c xs) F)) (hs:xs.length≤140737488355328):RdB w (a.map fun b=>⟨b,0,none⟩) xs.length xs:=by
 refine⟨rfl,hs,fun hn=>?_⟩
 obtain⟨_,_,_,hnone,hsome⟩:=h.sat.sl_facts
 cases a with
 | none=>have:=hnone rfl;omega
 | some b =>
  refine⟨b,0,rfl,fun j hj=>?_⟩
  rw[Nat.zero_add,St.sl_cell (h:St B w0 w (star (sl (some b) _ _ _ _ _) F)) j (by simpa using hj),byts_get _ _ hj]
theorem RdB.news {w:World} {A:Addr} {n:Nat} {xs:List Int} (h:RdB w (some A) n xs) (hn:0<n):∀ j u,(byts xs)[j]?=some u→w.cell? (A.add j)=some u:=by
 intro j u hj
 obtain⟨b,o,e,hc⟩:=h.cells hn
 have hlt:j<xs.length:=by have:=(List.getElem?_eq_some_iff.1 hj).1;simpa using this
 obtain rfl:A=⟨b,o,none⟩:=by simpa using e
 have hadd:(⟨b,o,none⟩:Addr).add j=⟨b,o+j,none⟩:=by unfold Addr.add;split <;> simp_all
 rw[hadd,hc j (by have:=h.len;omega)]
 rw[byts_get xs j hlt] at hj
 exact hj
section
variable {P:Program}
variable {ops:Array Oper} {rest:List Oper} {o:Oper} {a:Act} {Q:Exit→Act→World→Prop}
theorem wpList_append_byte {w:World} (hgd:o.guard=none) (s x:Operand) (t e:TypeId)
  (ho:o.op=.call { callee:=.builtin .append,args:=#[s,x],argTypes:=#[t,t] })
  (ht:P.underlying t=some (.slice e)) (hinfo:(P.info? e).map (fun i=>(i.zero,i.size,i.bytes))=some (some (.int .u8 0),1,1))
  {B:Nat} {w0:World} {v:Option Nat} {c:Nat} {xs:List Int} {F:HP} (hst:St B w0 w (star (slb e v c xs) F)) (n:Nat) (hn:xs.length=n)
  (hs:a.eval s=.slice (v.map fun b=>⟨b,0,none⟩) n c) (y:Int) (hx:a.eval x=.slice (some ⟨w.heap.size,0,none⟩) 1 1) (hb:(n+1)*1≤140737488355328)
  (h:∀ b' c' w',St B w0 w' (star (slb e (some b') c' (xs++[y])) F)→wpList P ops Q rest (a.put o.dst (.slice (some ⟨b',0,none⟩) (n+1) c')) w') :
  wpList P ops Q (o :: rest) a (w.alloc (.cells #[.int .u8 y] e)):=by
 subst hn
 refine wpList_append1 hgd s x t e (.int .u8 0) 1 ho ht hinfo rfl hst hs (.int .u8 y) hx rfl hb (by simp only[maxLen];omega) ?_
 intro b' c' w' h2
 exact h b' c' w' (by unfold slb;rw[byts_append];simpa [byts] using h2)
end
section
variable {P:Program}
end
end Go.Proofs.PlaitSep
namespace Go.Proofs.PlaitPure
def IsBytes (b:List Int):Prop:=∀ x∈b,0≤x∧x≤255
theorem IsBytes.append {a b:List Int} (h:IsBytes a) (k:IsBytes b):IsBytes (a++b):=fun x hx=>(List.mem_append.1 hx).elim (h x) (k x)
theorem IsBytes.drop {b:List Int} (h:IsBytes b) (n:Nat):IsBytes (b.drop n):=fun x hx=>h x (List.mem_of_mem_drop hx)
theorem IsBytes.tail {a:Int} {b:List Int} (h:IsBytes (a :: b)):IsBytes b:=fun x hx=>h x (by simp[hx])
def okN (n:Int):Bool:=decide (0≤n∧n≤2147483647)
theorem okN_iff {n:Int}:okN n=true↔0≤n∧n≤2147483647:=by simp[okN]
def putF (n:Int):List Int:=[n/16777216 % 256,n/65536 % 256,n/256 % 256,n % 256]
theorem putF_length (n:Int):(putF n).length=4:=rfl
def numF (a b c d:Int):Int:=a*16777216+b*65536+c*256+d
theorem put_numF {a b c d:Int} (ha:0≤a∧a≤255) (hb:0≤b∧b≤255) (hc:0≤c∧c≤255) (hd:0≤d∧d≤255):putF (numF a b c d)=[a,b,c,d]:=by
 unfold putF numF
 congr 1
 ·omega
 ·congr 1
  ·omega
  ·congr 1
   ·omega
   ·congr 1
    omega
def stepB (s:List Int):List Int:=putF s.length++s.flatMap putF
def encB (l:List (List Int)):List Int:=putF 1347179569++(putF l.length++l.flatMap stepB)
def encF (l:List (List Int)):List Int×Int:=if l.all (fun s=>s.all okN) then (encB l,0) else ([],120)
theorem flat_put_length (s:List Int):(s.flatMap putF).length=4*s.length:=by
 induction s with
 | nil=>rfl
 | cons a r ih=>rw[List.flatMap_cons,List.length_append,ih,putF_length,List.length_cons];omega
theorem stepB_length (s:List Int):(stepB s).length=4+4*s.length:=by rw[stepB,List.length_append,flat_put_length,putF_length]
theorem flat_step_length (l:List (List Int)):(l.flatMap stepB).length=4*l.length+4*(l.map List.length).sum:=by
 induction l with
 | nil=>rfl
 | cons a r ih=>rw[List.flatMap_cons,List.length_append,ih,stepB_length,List.length_cons,List.map_cons,List.sum_cons];omega
theorem encB_length (l:List (List Int)):(encB l).length=8+4*l.length+4*(l.map List.length).sum:=by
 rw[encB,List.length_append,List.length_append,flat_step_length,putF_length,putF_length];omega
def takeF:List Int→Option (Int×List Int)
 | a :: b :: c :: d :: r=>if a≤127 then some (numF a b c d,r) else none
 | _=>none
def readN:Nat→List Int→Option (List Int×List Int)
 | 0,b=>some ([],b)
 | k+1,b=>match takeF b with
  | none=>none
  | some (x,r)=>match readN k r with
   | none=>none
   | some (l,r')=>some (x :: l,r')
def rowN (b:List Int):Option (List Int×List Int):=match takeF b with
 | none=>none
 | some (n,r)=>readN n.toNat r
def rowsN:Nat→List Int→Option (List (List Int)×List Int)
 | 0,b=>some ([],b)
 | k+1,b=>match rowN b with
  | none=>none
  | some (x,r)=>match rowsN k r with
   | none=>none
   | some (l,r')=>some (x :: l,r')
def decF (b:List Int):List (List Int)×Int:=match takeF b with
 | none=>([],120)
 | some (h,r)=>match takeF r with
  | none=>([],120)
  | some (n,r2)=>if h≠1347179569 then ([],120) else match rowsN n.toNat r2 with
   | some (l,[])=>(l,0)
   | _=>([],120)
theorem takeF_length {b:List Int} {n:Int} {r:List Int} (h:takeF b=some (n,r)):b.length=r.length+4:=by
 unfold takeF at h
 split at h
 ·split at h
  ·cases h;simp
  ·cases h
 ·cases h
theorem takeF_form {b:List Int} {n:Int} {r:List Int} (hb:IsBytes b) (h:takeF b=some (n,r)):b=putF n++r∧okN n=true∧IsBytes r:=by
 unfold takeF at h
 split at h
 ·rename_i a b c d r'
  split at h
  ·rename_i ha
   cases h
   have h1:=hb a (by simp)
   have h2:=hb b (by simp)
   have h3:=hb c (by simp)
   have h4:=hb d (by simp)
   refine⟨by rw[put_numF h1 h2 h3 h4];rfl,okN_iff.2 ?_,fun x hx=>hb x (by simp[hx])⟩
   unfold numF
   omega
  ·cases h
 ·cases h
theorem readN_length:∀ (k:Nat) (b l r:List Int),readN k b=some (l,r)→b.length=r.length+4*k∧l.length=k
 | 0,b,l,r,h=>by cases h;simp
 | k+1,b,l,r,h=>by
  unfold readN at h
  split at h
  ·cases h
  ·rename_i x r1 h1
   split at h
   ·cases h
   ·rename_i l' r' h2
    cases h
    have e1:=takeF_length h1
    obtain⟨e2,e3⟩:=readN_length k r1 l' r h2
    exact⟨by omega,by simp[e3]⟩
theorem rowN_length {b l r:List Int} (h:rowN b=some (l,r)):b.length=r.length+4+4*l.length:=by
 unfold rowN at h
 split at h
 ·cases h
 ·rename_i n r1 h1
  have e1:=takeF_length h1
  obtain⟨e2,e3⟩:=readN_length _ _ _ _ h
  omega
theorem rowsN_length:∀ (k:Nat) (b:List Int) (l:List (List Int)) (r:List Int),rowsN k b=some (l,r)→b.length=r.length+4*k+4*(l.map List.length).sum∧l.length=k
 | 0,b,l,r,h=>by cases h;simp
 | k+1,b,l,r,h=>by
  unfold rowsN at h
  split at h
  ·cases h
  ·rename_i x r1 h1
   split at h
   ·cases h
   ·rename_i l' r' h2
    cases h
    have e1:=rowN_length h1
    obtain⟨e2,e3⟩:=rowsN_length k r1 l' r h2
    simp only[List.map_cons,List.sum_cons,List.length_cons]
    omega
theorem decF_err (b:List Int):(decF b).2=0∨(decF b).2=120∧(decF b).1=[]:=by
 unfold decF
 split
 ·exact .inr ⟨rfl,rfl⟩
 ·split
  ·exact .inr ⟨rfl,rfl⟩
  ·split
   ·exact .inr ⟨rfl,rfl⟩
   ·split
    ·exact .inl rfl
    ·exact .inr ⟨rfl,rfl⟩
theorem decF_size {b:List Int} (h:(decF b).2=0):b.length=8+4*(decF b).1.length+4*((decF b).1.map List.length).sum:=by
 unfold decF at h ⊢
 split at h
 ·cases h
 ·rename_i m r h1
  try rw[h1]
  try simp only at h ⊢
  split at h
  ·cases h
  ·rename_i n r2 h2
   try rw[h2]
   try simp only at h ⊢
   split at h
   ·cases h
   ·rename_i hm
    try rw[if_neg hm]
    split at h
    ·rename_i l h3
     try rw[h3]
     try simp only
     have e1:=takeF_length h1
     have e2:=takeF_length h2
     obtain⟨e3,e4⟩:=rowsN_length _ _ _ _ h3
     simp at e3
     omega
    ·cases h
end Go.Proofs.PlaitPure
namespace Go.Proofs.YthbbmdnfkkffjaaGreat
open Go.RowKit Go.Proofs.PlaitSep Go.Proofs.PlaitPure
abbrev Rws:=List (Option Nat×Nat×List Int)
def rwV (W:Rws):List Value:=W.map fun x=>slv x.1 x.2.2.length x.2.1
def rwH (W:Rws):List HP:=W.map fun x=>sli 3 x.1 x.2.1 x.2.2
def rwsHP (e:TypeId) (a:Option Nat) (c:Nat) (W:Rws):HP:=star (sl a W.length c e 1 (rwV W)) (stars (rwH W))
theorem rwV_length (W:Rws):(rwV W).length=W.length:=by simp[rwV]
theorem rwV_append (W V:Rws):rwV (W++V)=rwV W++rwV V:=by simp[rwV]
theorem rwH_append (W V:Rws):rwH (W++V)=rwH W++rwH V:=by simp[rwH]
theorem sl_none (e:TypeId) (sz:Nat):sl none 0 0 e sz []=emp:=by
 funext h
 apply propext
 exact⟨fun k=>k.2.2.2,fun k=>⟨by simp,rfl,rfl,k⟩⟩
theorem rwsHP_nil (e:TypeId):rwsHP e none 0 []=emp:=by
 unfold rwsHP rwV rwH
 simp only[List.map_nil,stars_nil,List.length_nil,sl_none,star_emp]
section
variable {B:Nat} {w0 w:World} {e:TypeId} {F:HP}
theorem rws_focus {a:Option Nat} {c wl:Nat} {W:Rws} (h:St B w0 w (star (rwsHP e a c W) F)) (hw:W.length=wl):St B w0 w (star (sl a wl c e 1 (rwV W)) (star (stars (rwH W)) F)):=by
 subst hw
 exact h.conseq (by unfold rwsHP;ac_rfl)
theorem rws_push {b' c' wl:Nat} {W:Rws} {ka:Option Nat} {kc:Nat} {l:List Int} (hw:W.length=wl) (h:St B w0 w (star (sl (some b') (wl+1) c' e 1 (rwV W++[.slice (ka.map fun b=>⟨b,0,none⟩) l.length kc])) (star (sli 3 ka kc l) (star (stars (rwH W)) F)))) :
  St B w0 w (star (rwsHP e (some b') c' (W++[(ka,kc,l)])) F):=by
 subst hw
 refine h.conseq ?_
 unfold rwsHP
 rw[rwV_append,rwH_append,stars_append,List.length_append]
 simp only[rwV,rwH,List.map_cons,List.map_nil,stars_one,List.length_cons,List.length_nil,slv]
 ac_rfl
theorem rws_rd {a:Option Nat} {c:Nat} {W:Rws} (h:St B w0 w (star (rwsHP e a c W) F)) (hl:∀ x∈W,x.2.2.length≤140737488355328) (hn:W.length≤140737488355328) :
  Rd2 w (a.map fun b=>⟨b,0,none⟩) W.length (W.map fun x=>x.2.2):=by
 have h1:=rws_focus h rfl
 refine⟨by simp,hn,fun hp=>?_⟩
 obtain⟨_,_,_,hnone,_⟩:=h1.sat.sl_facts
 cases a with
 | none=>have:=(hnone rfl).1;omega
 | some b =>
  refine⟨b,0,rfl,fun j hj=>?_⟩
  obtain⟨x,hx⟩:∃ x,W[j]?=some x:=⟨W[j],by simp[hj]⟩
  have hg:gl (W.map fun x=>x.2.2) j=x.2.2:=by simp[gl,List.getD_eq_getElem?_getD,hx]
  refine⟨x.1.map fun b=>⟨b,0,none⟩,x.2.1,?_,?_⟩
  ·rw[Nat.zero_add,St.sl_cell (h:=h1) j (by rw[rwV_length];exact hj),hg]
   simp[rwV,hx,slv]
  ·rw[hg]
   have hr:(rwH W)[j]?=some (sli 3 x.1 x.2.1 x.2.2):=by simp[rwH,hx]
   have h2:St B w0 w (star (sli 3 x.1 x.2.1 x.2.2) (star (sl (some b) W.length c e 1 (rwV W)) (star (stars ((rwH W).eraseIdx j)) F))):=h1.conseq (by rw[(stars_set_split hr emp).1];ac_rfl)
   exact St.rd h2 (hl x (List.mem_of_getElem? hx))
end
def Caps (w:World) (A:Option Addr) (n:Nat):Prop:=∀ b o j,A=some ⟨b,o,none⟩→j<n→∀ Aj l c,w.cell? ⟨b,o+j,none⟩=some (.slice Aj l c)→l≤c
theorem Caps.grow {w w':World} {A:Option Addr} {n:Nat} {xss:List (List Int)} (h:Caps w A n) (hr:Rd2 w A n xss) (hb:Below w.heap.size w w'):Caps w' A n:=by
 intro b o j hA hj Aj l c hc
 obtain⟨b2,o2,e,hcell⟩:=hr.cells (by omega)
 rw[hA] at e
 obtain⟨rfl,rfl⟩:b=b2∧o=o2:=by simpa using e
 obtain⟨A2,c2,h2,_⟩:=hcell j hj
 rw[hb.cell (World.block_lt_of_cell? w _ h2)] at hc
 exact h b o j hA hj Aj l c hc
theorem rws_caps {B:Nat} {w0 w:World} {e:TypeId} {F:HP} {a:Option Nat} {c n:Nat} {W:Rws} (h:St B w0 w (star (rwsHP e a c W) F)) (hn:W.length=n):Caps w (a.map fun b=>⟨b,0,none⟩) n:=by
 subst hn
 intro b o j hA hj Aj l cc hc
 have h1:=rws_focus h rfl
 cases a with
 | none=>cases hA
 | some b =>
  simp only[Option.map_some,Option.some.injEq,Addr.mk.injEq,and_true] at hA
  obtain⟨rfl,rfl⟩:=hA
  obtain⟨x,hx⟩:∃ x,W[j]?=some x:=⟨W[j],by simp[hj]⟩
  rw[Nat.zero_add,St.sl_cell (h:=h1) j (by rw[rwV_length];exact hj)] at hc
  simp only[rwV,List.getElem?_map,hx,Option.map_some,slv,Option.some.injEq,Value.slice.injEq] at hc
  obtain⟨_,rfl,rfl⟩:=hc
  have hr:(rwH W)[j]?=some (sli 3 x.1 x.2.1 x.2.2):=by simp[rwH,hx]
  have h2:St B w0 w (star (sli 3 x.1 x.2.1 x.2.2) (star (sl (some b) W.length c e 1 (rwV W)) (star (stars ((rwH W).eraseIdx j)) F))):=h1.conseq (by rw[(stars_set_split hr emp).1];ac_rfl)
  unfold sli at h2
  exact h2.sat.sl_facts.2.1
theorem St.none (w:World) (e:TypeId):St w.heap.size w w (star (sl none 0 0 e 1 []) emp):=⟨Below.refl _ _,Nat.le_refl _,(St.start w).sat.sl_nil _ _⟩
theorem Tryz.infoByte:(Tryz.prog.info? 5).map (fun i=>(i.zero,i.size,i.bytes))=some (some (.int .u8 0),1,1):=by kernel_rfl
theorem Tryz.infoStep:(Tryz.prog.info? 106).map (fun i=>(i.zero,i.size,i.bytes))=some (some (.agg #[.slice none 0 0]),1,24):=by kernel_rfl
end Go.Proofs.YthbbmdnfkkffjaaGreat
namespace Go.Proofs.YthbbmdnfkkffjaaGreat
open Go.RowKit Go.Proofs.PlaitSep Go.Proofs.PlaitSat
open Go.Proofs.PlaitPure hiding SM
def rwsOf (l:List (Fl Int)):Rws:=l.map fun f=>(f.a,f.c,f.xs)
theorem rwsOf_map (l:List (Fl Int)):(rwsOf l).map (fun x=>x.2.2)=l.map (·.xs):=by unfold rwsOf;rw[List.map_map];rfl
theorem rwsOf_len (l:List (Fl Int)):(rwsOf l).length=l.length:=by unfold rwsOf;simp
theorem rwsOf_V (l:List (Fl Int)):rwV (rwsOf l)=l.map Fl.v:=by unfold rwV rwsOf;rw[List.map_map];rfl
theorem rwsOf_H (f:Fl (Fl Int)):rwH (rwsOf f.xs)=f.rows 3 vI:=by unfold rwH rwsOf Fl.rows;rw[List.map_map];rfl
section
variable {B:Nat} {w0 w:World} {p:Nat} {M:MM} {F:HP}
theorem rws_of {f:Fl (Fl Int)} {i j:Nat} (h:At B w0 w p M F) (hi:(parts p M)[i]?=some (f.outer 27)) (hj:(parts p M)[j]?=some (stars (f.rows 3 vI))) (hij:i≠j):∃ G,St B w0 w (star (rwsHP 27 f.a f.c (rwsOf f.xs)) G):=by
 obtain⟨G,k⟩:=h.st.two hi hj hij
 refine⟨G,k.conseq ?_⟩
 unfold rwsHP
 rw[rwsOf_V,rwsOf_H,rwsOf_len]
 unfold Fl.outer
 ac_rfl
theorem At.rd2 {f:Fl (Fl Int)} {i j:Nat} (h:At B w0 w p M F) (hi:(parts p M)[i]?=some (f.outer 27)) (hj:(parts p M)[j]?=some (stars (f.rows 3 vI))) (hij:i≠j) (hl:∀ x∈f.xs,x.xs.length≤1000000) (hn:f.xs.length≤1000000) :
  Rd2 w (f.a.map fun b=>⟨b,0,none⟩) f.xs.length (f.xs.map (·.xs)):=by
 obtain⟨G,k⟩:=rws_of h hi hj hij
 have:=rws_rd k (fun x hx=>by
  unfold rwsOf at hx
  obtain⟨y,hy,rfl⟩:=List.mem_map.1 hx
  have:=hl y hy
  show y.xs.length≤_
  omega) (by rw[rwsOf_len];omega)
 rw[rwsOf_len,rwsOf_map] at this
 exact this
end
set_option maxRecDepth 100000 in
set_option maxHeartbeats 2000000 in
theorem copied_any (A:Option Addr) (n cap:Nat) (xss:List (List Int)) (w:World) (hr:Rd2 w A n xss) (hn:n≤1000000) (hs:∀ j,j<n→(gl xss j).length≤1000000) :
  Calls Tryz.prog 47 #[.slice A n cap] w fun e w'=>∃ (a:Option Nat) (c:Nat) (W:Rws),e=.returned (.slice (a.map fun b=>⟨b,0,none⟩) n c)∧St w.heap.size w w' (star (rwsHP 27 a c W) emp)∧W.map (fun x=>x.2.2)=xss∧W.length=n:=by
 have HR:=Lib.hid hr
 have HS:=Lib.hid hs
 clear hr hs
 go_enter Tryz.func47,Tryz.ntmps47
 go_wp2
 go_loopw [3,8] (fun v3 v4 wr=>∃ (j:Nat) (a:Option Nat) (c:Nat) (W:Rws),j≤n∧v4=.int .i64 j∧v3=.slice (a.map fun b=>⟨b,0,none⟩) j c∧Hid (St w.heap.size w wr (star (rwsHP 27 a c W) emp))∧Hid (W.map (fun x=>x.2.2)=xss.take j)∧Hid (W.length=j)) (fun _ v4 _=>n-(intOf v4).toNat)
 case atStart=>exact⟨0,none,0,[],Nat.zero_le _,rfl,rfl,(by rw[rwsHP_nil,star_emp];exact St.start w:St w.heap.size w w (star (rwsHP 27 none 0 []) emp)),(rfl:([]:Rws).map (fun x=>x.2.2)=xss.take 0),(rfl:([]:Rws).length=0)⟩
 case round =>
  obtain⟨j,a,c,W,hj,rfl,rfl,HST,HC,HL⟩:=hrel
  by_cases hjn:j<n
  ·obtain⟨ab,ao,hA,hc⟩:=(HR.out.grow HST.out.below).cells (by omega)
   subst hA
   obtain⟨Aj,cj,d1,hrj⟩:=hc j hjn
   have hsm:=HS.out j hjn
   obtain⟨xs,hxs⟩:∃ xs,gl xss j=xs:=⟨_,rfl⟩
   obtain⟨ln,hln⟩:∃ ln,xs.length=ln:=⟨_,rfl⟩
   rw[hxs,hln] at d1 hrj
   rw[hxs,hln] at hsm
   have htk:xss.take (j+1)=xss.take j++[xs]:=by rw[take_gl xss j (by have:=HR.out.len;omega),hxs]
   have HTK:=Lib.hid htk
   have HRJ:=Lib.hid hrj
   have HLN:=Lib.hid hln
   have hj0:(0:Int)≤(j:Int):=by omega
   have hj1:(j:Int)<(n:Int):=by omega
   clear hc hrj hxs hln htk
   go_wp2_with fail
   refine (clone_any Aj ln cj xs wr HRJ.out (by omega)).mono ?_
   rintro e w3 ⟨ka,kc,rfl,k3⟩
   have h3:=rws_focus ((HST.out.nest k3).conseq (show _=star (rwsHP 27 a c W) (sli 3 ka kc xs) by rw[star_emp];ac_rfl)) HL.out
   have H3:=Lib.hid h3
   clear k3 h3
   unfold slv
   rw[HLN.out]
   go_wp2_with (at_builtin;refine wpList_append1 rfl _ _ 37 27 (.slice none 0 0) 24 rfl Tryz.underlying37 Tryz.infoRow rfl H3.out rfl (.slice (ka.map fun b=>⟨b,0,none⟩) ln kc) rfl rfl (by omega) (by simp only[maxLen];omega) ?_;intro b' c' w4 h4;have H4:=Lib.hid h4;clear h4)
   have h5:=rws_push (F:=emp) (ka:=ka) (kc:=kc) (l:=xs) HL.out (by rw[HLN.out];exact H4.out.conseq (by rw[star_emp];ac_rfl))
   have H5:=Lib.hid h5
   clear h5
   go_wp2
   go_roundw
   case rel =>
    refine⟨j+1,some b',c',W++[(ka,kc,xs)],by omega,by go_num,rfl,H5.out,(?_:(W++[(ka,kc,xs)]).map (fun x=>x.2.2)=xss.take (j+1)),(?_:(W++[(ka,kc,xs)]).length=j+1)⟩
    ·rw[HTK.out,List.map_append,HC.out];rfl
    ·rw[List.length_append,HL.out];rfl
   case measure=>simp[intOf];omega
  ·obtain rfl:j=n:=by omega
   have hlen:=HR.out.len
   have htk:=HC.out
   rw[List.take_of_length_le (by omega)] at htk
   have HTK:=Lib.hid htk
   clear hlen htk
   go_wp2
   go_ret
   exact⟨a,c,W,rfl,HST.out,HTK.out,HL.out⟩
section
variable {B:Nat} {w0 w:World} {q:Nat} {S:SM} {F:HP}
def OwnPost (w:World) (xss:List (List Int)) (e:Ending) (w':World):Prop :=
 ∃ (a:Option Nat) (c:Nat) (W:Rws),e=.returned (.slice (a.map fun b=>⟨b,0,none⟩) W.length c)∧St w.heap.size w w' (star (rwsHP 27 a c W) emp)∧W.map (fun x=>x.2.2)=xss
set_option maxRecDepth 100000 in
set_option maxHeartbeats 2000000 in
theorem satClauses_any (h:SatI B w0 w q S F) (hl:∀ x∈S.given,x.length≤1000000) (hn:S.given.length≤1000000) :
  Calls Tryz.prog 23 #[.pointer (some ⟨q,0,none⟩)] w (OwnPost w S.given):=by
 obtain⟨p,M,h1,h2⟩:=h
 have k0:=SatI.c h1
 have hg:M.given.xs.map (·.xs)=S.given:=by rw[←h2];rfl
 have hgl:M.given.xs.length=S.given.length:=by rw[←hg,List.length_map]
 have hrd:=At.rd2 (f:=M.given) (i:=15) (j:=16) h1 rfl rfl (by omega) (fun x hx=>hl _ (by rw[←hg];exact List.mem_map_of_mem hx)) (by omega)
 rw[hg] at hrd
 have hgv:=SGiven_any h1
 obtain⟨n,hn2⟩:∃ n,M.given.xs.length=n:=⟨_,rfl⟩
 rw[hn2] at hrd hgv
 have hc:=copied_any (M.given.a.map fun b=>⟨b,0,none⟩) n M.given.c S.given w hrd (by omega) (fun j hj=>hl _ (by rw[gl_eq _ j (by omega)];exact List.getElem_mem _))
 have HC:=Lib.hid hc
 have HG:=Lib.hid hgv
 clear h1 h2 hg hgl hrd hgv hc hn2
 go_enter Tryz.func23,Tryz.ntmps23
 go_wp2_with fail
 refine HG.out.mono ?_
 rintro e w1 ⟨rfl,rfl⟩
 go_wp2_with fail
 refine HC.out.mono ?_
 rintro e w2 ⟨a,c,W,rfl,k1,k2,k3⟩
 have HK:=Lib.hid k1
 have HK2:=Lib.hid k2
 have HK3:=Lib.hid k3
 clear k1 k2 k3
 go_wp2
 go_ret
 exact⟨a,c,W,by rw[HK3.out];rfl,HK.out,HK2.out⟩
set_option maxRecDepth 100000 in
set_option maxHeartbeats 2000000 in
theorem satLearned_any (h:SatI B w0 w q S F) (hl:∀ x∈S.learned,x.length≤1000000) (hn:S.learned.length≤1000000) :
  Calls Tryz.prog 28 #[.pointer (some ⟨q,0,none⟩)] w (OwnPost w S.learned):=by
 obtain⟨p,M,h1,h2⟩:=h
 have k0:=SatI.c h1
 have hg:M.learned.xs.map (·.xs)=S.learned:=by rw[←h2];rfl
 have hgl:M.learned.xs.length=S.learned.length:=by rw[←hg,List.length_map]
 have hrd:=At.rd2 (f:=M.learned) (i:=21) (j:=22) h1 rfl rfl (by omega) (fun x hx=>hl _ (by rw[←hg];exact List.mem_map_of_mem hx)) (by omega)
 rw[hg] at hrd
 have hgv:=SLearned_any h1
 obtain⟨n,hn2⟩:∃ n,M.learned.xs.length=n:=⟨_,rfl⟩
 rw[hn2] at hrd hgv
 have hc:=copied_any (M.learned.a.map fun b=>⟨b,0,none⟩) n M.learned.c S.learned w hrd (by omega) (fun j hj=>hl _ (by rw[gl_eq _ j (by omega)];exact List.getElem_mem _))
 have HC:=Lib.hid hc
 have HG:=Lib.hid hgv
 clear h1 h2 hg hgl hrd hgv hc hn2
 go_enter Tryz.func28,Tryz.ntmps28
 go_wp2_with fail
 refine HG.out.mono ?_
 rintro e w1 ⟨rfl,rfl⟩
 go_wp2_with fail
 refine HC.out.mono ?_
 rintro e w2 ⟨a,c,W,rfl,k1,k2,k3⟩
 have HK:=Lib.hid k1
 have HK2:=Lib.hid k2
 have HK3:=Lib.hid k3
 clear k1 k2 k3
 go_wp2
 go_ret
 exact⟨a,c,W,by rw[HK3.out];rfl,HK.out,HK2.out⟩
end
end Go.Proofs.YthbbmdnfkkffjaaGreat

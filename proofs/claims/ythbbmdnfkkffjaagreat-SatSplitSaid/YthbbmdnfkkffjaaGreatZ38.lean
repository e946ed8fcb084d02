/-
  Parts of the proof, joined by program: StoreM3, StoreM4, StoreM5, StoreM6, Store8, StoreM7.
-/
import Derived.Test.YthbbmdnfkkffjaaGreatZ37
import Derived.Test.YthbbmdnfkkffjaaGreatZ18
import Derived.Test.YthbbmdnfkkffjaaGreatZ23
namespace Go.Proofs.PlaitPure
theorem idx_inj {a b:Int} (h:idx a=idx b):a=b:=by
 unfold idx at h
 split at h <;> split at h <;> omega
theorem SM.getW_watch (S:SM) (x:Int) (ref j:Nat):(S.watch x ref).getW j=if j=idx x then S.getW j++[ref] else S.getW j:=by
 have hp:∀ k,(padW S.watches (topOf (idx x))).getD k []=S.watches.getD k []:=by
  intro k
  unfold padW
  simp only[List.getD_eq_getElem?_getD,List.getElem?_append]
  split
  ·rfl
  ·rename_i h
   rw[List.getElem?_replicate,List.getElem?_eq_none (by omega)]
   split <;> rfl
 have hl:idx x<(padW S.watches (topOf (idx x))).length:=by
  rw[padW_length]
  have:=lt_topOf (idx x)
  omega
 unfold SM.getW SM.watch watchW
 simp only
 rw[List.getD_eq_getElem?_getD,List.getElem?_set]
 by_cases h:idx x=j
 ·subst h
  rw[if_pos rfl,if_pos hl,if_pos rfl,hp]
  rfl
 ·rw[if_neg h,if_neg (fun e=>h e.symm),←List.getD_eq_getElem?_getD,hp]
theorem SM.watch_length (S:SM) (x:Int) (ref:Nat):(S.watch x ref).watches.length=max S.watches.length (topOf (idx x)):=by
 unfold SM.watch watchW
 rw[List.length_set,padW_length]
theorem SM.getW_setW (S:SM) (i j:Nat) (l:List Nat):(S.setW i l).getW j=if i=j∧i<S.watches.length then l else S.getW j:=by
 unfold SM.getW SM.setW
 simp only[List.getD_eq_getElem?_getD,List.getElem?_set]
 by_cases h:i=j
 ·subst h
  by_cases h2:i<S.watches.length
  ·simp[h2]
  ·simp[h2]
 ·simp[h]
theorem SM.getW_lt {S:SM} {i ref:Nat} (h:ref∈S.getW i):i<S.watches.length:=by
 unfold SM.getW at h
 rw[List.getD_eq_getElem?_getD] at h
 cases hh:S.watches[i]? with
 | none=>rw[hh] at h;simp at h
 | some x=>exact (List.getElem?_eq_some_iff.1 hh).1
theorem SM.put_words_length (S:SM) {ref:Nat} (c:Cl) (hc:c.lits.length=(S.cl ref).lits.length):(S.put ref c).words.length=S.words.length:=by
 unfold SM.words SM.put
 exact flat_set_length hc
theorem SM.Inv.refs {S:SM} (h:S.Inv):S.cls.length≤262144:=by
 have:=S.cls_length_le
 have:=h.words
 have:=h.most
 omega
theorem SM.Inv.short {S:SM} (h:S.Inv) (x:List Nat) (hx:x∈S.watches):x.length≤262144:=by
 obtain⟨i,hi,rfl⟩:=List.getElem_of_mem hx
 have e:S.getW i=S.watches[i]:=by unfold SM.getW;simp[hi]
 have:=nodup_bound S.cls.length (S.getW i) (h.nodup i) (fun r hr=>((h.watch i r).1 hr).1)
 rw[e] at this
 have:=h.refs
 omega
theorem getL_mem {l:List Int} {i:Nat} (h:i<l.length):gi l i∈l:=by rw[gi_eq l i h];exact List.getElem_mem h
theorem gi_inj {l:List Int} (hn:l.Nodup) {i j:Nat} (hi:i<l.length) (hj:j<l.length) (h:gi l i=gi l j):i=j:=by
 rw[gi_eq l i hi,gi_eq l j hj] at h
 have hp:=List.pairwise_iff_getElem.1 hn
 rcases Nat.lt_trichotomy i j with hlt | he | hgt
 ·exact absurd h (hp i j hi hj hlt)
 ·exact he
 ·exact absurd h.symm (hp j i hj hi hgt)
theorem SM.Inv.move {S:SM} (h:S.Inv) {ref:Nat} (hr:ref<S.cls.length) {l x:Int} {kept rest:List Nat} (hW:S.getW (idx l)=kept++ref :: rest) {c:Cl} (hl:c.lits=(S.cl ref).lits) (hc:c.ok)
  (hx:litB x=true) (hxl:x≠l) (hnew:∀ j,c.watches j↔(j≠idx l∧(S.cl ref).watches j)∨j=idx x) (hold:¬ (S.cl ref).watches (idx x)) :
  (((S.put ref c).watch x ref).setW (idx l) (kept++rest)).Inv:=by
 have hlen:c.lits.length=(S.cl ref).lits.length:=by rw[hl]
 have hil:idx l<S.watches.length:=SM.getW_lt (ref:=ref) (by rw[hW];simp)
 have hne:idx x≠idx l:=fun e=>hxl (idx_inj e)
 have hb:=litB_iff.1 hx
 have hixb:=idx_le hb.2.1 hb.2.2
 have htop:topOf (idx x)≤131074:=by unfold topOf idx;split <;> split <;> omega
 have hg:∀ j,(((S.put ref c).watch x ref).setW (idx l) (kept++rest)).getW j=if j=idx l then kept++rest else if j=idx x then S.getW j++[ref] else S.getW j:=by
  intro j
  rw[SM.getW_setW,SM.watch_length,SM.getW_watch]
  by_cases h1:j=idx l
  ·rw[if_pos h1,if_pos ⟨h1.symm,by show idx l<max S.watches.length _;omega⟩]
  ·rw[if_neg h1,if_neg (fun e=>h1 e.1.symm)]
   rfl
 have hnd:=h.nodup (idx l)
 rw[hW] at hnd
 have hnd':(kept++rest).Nodup∧ref∉kept++rest:=by
  have hp:(kept++ref :: rest).Perm (ref :: (kept++rest)):=List.perm_middle
  have:=hp.nodup_iff.1 hnd
  rw[List.nodup_cons] at this
  exact⟨this.2,this.1⟩
 refine⟨h.most,?_,?_,?_,?_,?_⟩
 ·show (S.put ref c).words.length≤S.most
  rw[S.put_words_length c hlen];exact h.words
 ·intro i hi
  have hi':i<S.cls.length:=by
   have:i<(S.put ref c).cls.length:=hi
   rwa [S.put_length] at this
  show ((S.put ref c).cl i).ok
  rw[S.put_cl c hr i]
  split
  ·exact hc
  ·exact h.cl i hi'
 ·show (((S.put ref c).watch x ref).watches.set _ _).length≤_
  rw[List.length_set,SM.watch_length]
  have:=h.wlen
  show max S.watches.length _≤_
  omega
 ·intro j ref'
  rw[hg]
  have hcl:(((S.put ref c).watch x ref).setW (idx l) (kept++rest)).cl ref'=if ref'=ref then c else S.cl ref':=S.put_cl c hr ref'
  have hlen':(((S.put ref c).watch x ref).setW (idx l) (kept++rest)).cls.length=S.cls.length:=S.put_length ref c
  rw[hcl,hlen']
  have old:=h.watch j ref'
  by_cases he:ref'=ref
  ·subst he
   rw[if_pos rfl,hnew j]
   by_cases h1:j=idx l
   ·rw[if_pos h1]
    constructor
    ·intro hm;exact absurd hm hnd'.2
    ·rintro⟨_,⟨h2,_⟩ | h2⟩
     ·exact absurd h1 h2
     ·exact absurd (h2.symm.trans h1) hne
   ·rw[if_neg h1]
    by_cases h2:j=idx x
    ·rw[if_pos h2]
     simp[hr,h2]
    ·rw[if_neg h2,old]
     constructor
     ·rintro⟨a,b⟩;exact⟨a,.inl ⟨h1,b⟩⟩
     ·rintro⟨a,⟨_,b⟩ | b⟩
      ·exact⟨a,b⟩
      ·exact absurd b h2
  ·rw[if_neg he]
   by_cases h1:j=idx l
   ·rw[if_pos h1]
    subst h1
    rw[hW] at old
    rw[←old]
    simp[he]
   ·rw[if_neg h1]
    by_cases h2:j=idx x
    ·rw[if_pos h2,←old]
     simp[he]
    ·rw[if_neg h2,old]
 ·intro j
  rw[hg]
  split
  ·exact hnd'.1
  ·split
   ·rename_i h2
    rw[List.nodup_append]
    refine⟨h.nodup j,by simp,?_⟩
    intro a ha b hb' e
    rw[List.mem_singleton.1 hb'] at e
    subst e
    rw[h2] at ha
    exact hold ((h.watch _ _).1 ha).2
   ·exact h.nodup j
structure Looks (S:SM) (ref:Nat) (l:Int):Prop where
 isRef:ref<S.cls.length
 two:2≤(S.cl ref).lits.length
 ok:(S.cl ref).ok
 mine:if mineP S ref l then gi (S.cl ref).lits (S.cl ref).p=l else gi (S.cl ref).lits (S.cl ref).q=l
theorem SM.Inv.looks {S:SM} (h:S.Inv) {ref:Nat} {l:Int} (hm:ref∈S.getW (idx l)):Looks S ref l:=by
 obtain⟨h1,h2,h3⟩:=(h.watch _ _).1 hm
 refine⟨h1,h2,h.cl ref h1,?_⟩
 unfold mineP
 by_cases he:gi (S.cl ref).lits (S.cl ref).p=l
 ·rw[if_pos (by simpa using he)];exact he
 ·rw[if_neg (by simpa using he)]
  rcases h3 with h3 | h3
  ·exact absurd (idx_inj h3) he
  ·exact idx_inj h3
theorem fits_ne {R:RM} {lits:List Int} {q i:Nat} (h:fits R lits q i=true):i≠q∧0≤R.is (gi lits i):=by
 unfold fits at h
 simpa using h
theorem findNew_some {R:RM} {lits:List Int} {q i:Nat} (h:findNew R lits q=some i):i<lits.length∧fits R lits q i=true:=by
 unfold findNew at h
 have h1:=List.mem_of_find?_eq_some h
 have h2:=List.find?_some h
 exact⟨by simpa using h1,h2⟩
theorem findNew_none {R:RM} {lits:List Int} {q:Nat} (h:findNew R lits q=none):∀ i,i<lits.length→fits R lits q i=false:=by
 unfold findNew at h
 rw[List.find?_eq_none] at h
 intro i hi
 have:=h i (by simpa using hi)
 simpa using this
inductive Found (S:SM) (R:RM) (ref:Nat) (l:Int) (kept rest:List Nat):Look→Prop
 | sat (h:0<R.is (gi (S.cl ref).lits (otherOf S ref l))):Found S R ref l kept rest ⟨false,false,S,R⟩
 | moved (i:Nat) (hi:i<(S.cl ref).lits.length) (hf:fits R (S.cl ref).lits (otherOf S ref l) i=true) (h:¬ 0<R.is (gi (S.cl ref).lits (otherOf S ref l))) :
   Found S R ref l kept rest ⟨true,false,(moveTo S ref l i).watch (gi (S.cl ref).lits i) ref,R⟩
 | bad (hn:∀ i,i<(S.cl ref).lits.length→fits R (S.cl ref).lits (otherOf S ref l) i=false) (h:R.is (gi (S.cl ref).lits (otherOf S ref l))<0):Found S R ref l kept rest ⟨false,true,S,R⟩
 | unit (hn:∀ i,i<(S.cl ref).lits.length→fits R (S.cl ref).lits (otherOf S ref l) i=false) (h:R.is (gi (S.cl ref).lits (otherOf S ref l))=0) :
   Found S R ref l kept rest ⟨false,false,S,R.set (gi (S.cl ref).lits (otherOf S ref l))⟩
theorem lookF_found (S:SM) (R:RM) (ref:Nat) (l:Int) (kept rest:List Nat):Found S R ref l kept rest (lookF S R ref l):=by
 unfold lookF
 simp only
 split
 ·exact .sat ‹_›
 ·split
  ·rename_i i hi
   have:=findNew_some hi
   exact .moved i this.1 this.2 ‹_›
  ·rename_i hn
   split
   ·exact .bad (findNew_none hn) ‹_›
   ·exact .unit (findNew_none hn) (by omega)
theorem SM.Inv.look {S:SM} {R:RM} (h:S.Inv) {ref:Nat} {l:Int} {kept rest:List Nat} (hW:S.getW (idx l)=kept++ref :: rest) (hl:R.is l<0) {i:Nat} (hi:i<(S.cl ref).lits.length) (hf:fits R (S.cl ref).lits (otherOf S ref l) i=true) :
  (((moveTo S ref l i).watch (gi (S.cl ref).lits i) ref).setW (idx l) (kept++rest)).Inv:=by
 have hk:=h.looks (ref:=ref) (l:=l) (by rw[hW];simp)
 obtain⟨hiq,hi0⟩:=fits_ne hf
 have hx:litB (gi (S.cl ref).lits i)=true:=hk.ok.lits _ (getL_mem hi)
 have hxl:gi (S.cl ref).lits i≠l:=fun e=>by rw[e] at hi0;omega
 have hp:=hk.ok.p hk.two
 have hq:=hk.ok.q hk.two
 have hpq:=hk.ok.pq hk.two
 have hmine:=hk.mine
 unfold otherOf at hiq
 unfold moveTo
 cases hm:mineP S ref l
 ·rw[hm] at hiq hmine
  simp only[Bool.false_eq_true,if_false] at hiq hmine ⊢
  have hiq':i≠(S.cl ref).q:=fun e=>hxl (by rw[e];exact hmine)
  refine SM.Inv.move h hk.isRef hW (c:=(S.cl ref).setQ i) rfl ⟨hk.ok.lits,hk.ok.nodup,hk.ok.apart,hk.ok.p,fun _=>hi,fun _=>fun e=>hiq e.symm⟩ hx hxl ?_ ?_
  ·intro j
   unfold Cl.watches Cl.setQ
   simp only
   constructor
   ·rintro⟨a,b | b⟩
    ·refine .inl ⟨fun e=>?_,a,.inl b⟩
     rw[e] at b
     have:=idx_inj b
     rw[←hmine] at this
     exact hpq (gi_inj hk.ok.nodup hp hq this)
    ·exact .inr b.symm
   ·rintro (⟨a,b,c | c⟩ | a)
    ·exact⟨b,.inl c⟩
    ·rw[hmine] at c;exact absurd c.symm a
    ·exact⟨hk.two,.inr a.symm⟩
  ·rintro⟨_,b | b⟩
   ·exact hiq (gi_inj hk.ok.nodup hp hi (idx_inj b)).symm
   ·exact hiq' (gi_inj hk.ok.nodup hq hi (idx_inj b)).symm
 ·rw[hm] at hiq hmine
  simp only[if_true] at hiq hmine ⊢
  have hiq':i≠(S.cl ref).p:=fun e=>hxl (by rw[e];exact hmine)
  refine SM.Inv.move h hk.isRef hW (c:=(S.cl ref).setP i) rfl ⟨hk.ok.lits,hk.ok.nodup,hk.ok.apart,fun _=>hi,hk.ok.q,fun _=>hiq⟩ hx hxl ?_ ?_
  ·intro j
   unfold Cl.watches Cl.setP
   simp only
   constructor
   ·rintro⟨a,b | b⟩
    ·exact .inr b.symm
    ·refine .inl ⟨fun e=>?_,a,.inr b⟩
     rw[e] at b
     have:=idx_inj b
     rw[←hmine] at this
     exact hpq (gi_inj hk.ok.nodup hq hp this).symm
   ·rintro (⟨a,b,c | c⟩ | a)
    ·rw[hmine] at c;exact absurd c.symm a
    ·exact⟨b,.inr c⟩
    ·exact⟨hk.two,.inl a.symm⟩
  ·rintro⟨_,b | b⟩
   ·exact hiq' (gi_inj hk.ok.nodup hp hi (idx_inj b)).symm
   ·exact hiq (gi_inj hk.ok.nodup hq hi (idx_inj b)).symm
end Go.Proofs.PlaitPure
namespace Go.Proofs.PlaitPure
theorem SM.setW_getW (S:SM) {i:Nat} (h:i<S.watches.length):S.setW i (S.getW i)=S:=by
 unfold SM.setW SM.getW
 simp[h]
theorem SM.setW_same {S:SM} {i:Nat} {v:List Nat} (h:i<S.watches.length) (e:S.getW i=v):S.setW i v=S:=by rw[←e];exact S.setW_getW h
structure ScanInv (l:Int) (S:SM) (R:RM) (kept rest:List Nat):Prop where
 sInv:S.Inv
 rInv:R.Inv
 neg:R.is l<0
 lit:litB l=true
 w:S.getW (idx l)=kept++rest
 lt:idx l<S.watches.length
 next:R.next<R.out.length
def scanStep (l:Int) (S:SM) (R:RM) (kept:List Nat) (ref:Nat) (rest:List Nat):List Nat×SM×RM :=
 let k:=lookF S R ref l
 let kept':=if k.moved then kept else kept++[ref]
 (kept',k.S.setW (idx l) (kept'++rest),k.R)
theorem ScanInv.step {l:Int} {S:SM} {R:RM} {kept rest:List Nat} {ref:Nat} (h:ScanInv l S R kept (ref :: rest)) :
  ScanInv l (scanStep l S R kept ref rest).2.1 (scanStep l S R kept ref rest).2.2 (scanStep l S R kept ref rest).1 rest:=by
 have hk:=h.sInv.looks (ref:=ref) (l:=l) (by rw[h.w];simp)
 have hlt:=h.lt
 unfold scanStep
 obtain⟨k,hkk⟩:∃ k,lookF S R ref l=k:=⟨_,rfl⟩
 have hf:=lookF_found S R ref l kept rest
 rw[hkk] at hf ⊢
 have hsame:S.setW (idx l) (kept++[ref]++rest)=S:=SM.setW_same hlt (by rw[h.w];simp)
 have hq:otherOf S ref l<(S.cl ref).lits.length:=by
  unfold otherOf
  split
  ·exact hk.ok.q hk.two
  ·exact hk.ok.p hk.two
 cases hf with
 | sat h1 =>
  simp only[Bool.false_eq_true,if_false]
  rw[hsame]
  exact⟨h.sInv,h.rInv,h.neg,h.lit,by rw[h.w];simp,hlt,h.next⟩
 | moved i hi hfi h1 =>
  simp only[if_true]
  have hinv:=h.sInv.look (kept:=kept) (rest:=rest) h.w h.neg hi hfi
  have h2:=fits_ne hfi
  have hne:idx (gi (S.cl ref).lits i)≠idx l:=fun e=>by have:=idx_inj e;rw[this] at h2;have:=h.neg;omega
  have hlen:idx l<((moveTo S ref l i).watch (gi (S.cl ref).lits i) ref).watches.length:=by
   rw[SM.watch_length]
   have:(moveTo S ref l i).watches=S.watches:=by unfold moveTo;split <;> rfl
   rw[this]
   omega
  refine⟨hinv,h.rInv,h.neg,h.lit,?_,?_,h.next⟩
  ·rw[SM.getW_setW,if_pos ⟨rfl,hlen⟩]
  ·show idx l<(((moveTo S ref l i).watch (gi (S.cl ref).lits i) ref).watches.set _ _).length
   rw[List.length_set];exact hlen
 | bad hn h1 =>
  simp only[Bool.false_eq_true,if_false]
  rw[hsame]
  exact⟨h.sInv,h.rInv,h.neg,h.lit,by rw[h.w];simp,hlt,h.next⟩
 | unit hn h1 =>
  simp only[Bool.false_eq_true,if_false]
  rw[hsame]
  have hx:litB (gi (S.cl ref).lits (otherOf S ref l))=true:=hk.ok.lits _ (getL_mem hq)
  refine⟨h.sInv,h.rInv.set hx h1,?_,h.lit,by rw[h.w];simp,hlt,by have:=h.next;simp[RM.set];omega⟩
  rw[RM.set_is h.rInv.ok hx l h.lit]
  have hneg:=h.neg
  split
  ·rename_i e;rw[←e] at h1;omega
  ·split
   ·omega
   ·exact hneg
theorem RM.Inv.step {R:RM} (h:R.Inv) (hn:R.next<R.out.length):R.step.Inv:=⟨⟨h.ok.len,h.ok.val,h.ok.out⟩,h.lits,h.pos,hn,h.nodup⟩
end Go.Proofs.PlaitPure
namespace Go.Proofs.PlaitPure
open Go.Proofs.PlaitSep
def SM.shortN (S:SM):List Nat:=(List.range S.cls.length).filter S.isShort
theorem SM.short_eq (S:SM):S.short=S.shortN.map fun (i:Nat)=>(i:Int):=rfl
def nVals:Nat:=65537
def RM.start:RM:=⟨[],zeros nVals,0⟩
end Go.Proofs.PlaitPure
namespace Go.Proofs.PlaitPure
open Go.Proofs.PlaitSep (upd)
def onceOut (out:List Int):List Int→List Int
 | []=>out
 | x :: r=>onceOut (if x∈out then out else out++[x]) r
def onceL (xs:List Int):List Int:=onceOut [] xs
def bothB (xs:List Int):Bool:=xs.any fun x=>decide (-x∈xs)
def onceE (xs:List Int):Int:=if xs.all litB then if bothB xs then 112 else 0 else 110
theorem onceOut_snoc (x:Int):∀ (xs out:List Int),onceOut out (xs++[x])=if x∈onceOut out xs then onceOut out xs else onceOut out xs++[x]
 | [],_=>rfl
 | _ :: r,_=>onceOut_snoc x r _
theorem onceOut_mem (u:Int):∀ (xs out:List Int),u∈onceOut out xs↔u∈out∨u∈xs
 | [],out=>by simp[onceOut]
 | y :: r,out=>by
  rw[onceOut,onceOut_mem u r]
  split <;> simp
  ·rename_i h
   constructor
   ·rintro (h1 | h1) <;> simp[h1]
   ·rintro (h1 | rfl | h1) <;> simp[*]
  ·constructor
   ·rintro ((h1 | h1) | h1) <;> simp[h1]
   ·rintro (h1 | h1 | h1) <;> simp[h1]
theorem onceOut_nodup:∀ (xs out:List Int),out.Nodup→(onceOut out xs).Nodup
 | [],out,h=>h
 | y :: r,out,h=>by
  rw[onceOut]
  refine onceOut_nodup r _ ?_
  split
  ·exact h
  ·rename_i hn
   rw[List.nodup_append]
   refine⟨h,by simp,?_⟩
   intro a ha b hb e
   simp only[List.mem_singleton] at hb
   subst hb e
   exact hn ha
theorem onceL_mem {u:Int} {xs:List Int}:u∈onceL xs↔u∈xs:=by
 unfold onceL
 rw[onceOut_mem];simp
theorem onceL_nodup (xs:List Int):(onceL xs).Nodup:=onceOut_nodup xs [] List.nodup_nil
theorem onceOut_length:∀ (xs out:List Int),(onceOut out xs).length≤out.length+xs.length
 | [],out=>Nat.le_refl _
 | y :: r,out=>by
  rw[onceOut]
  have:=onceOut_length r (if y∈out then out else out++[y])
  refine Nat.le_trans this ?_
  split <;> simp <;> omega
structure OnceAt (xs:List Int) (j:Nat) (out:List Int) (f:Int→Int) (both:Bool):Prop where
 out:onceOut [] (xs.take j)=out
 f:∀ u,f u=if u∈xs.take j then 1 else 0
 both:both=bothB (xs.take j)
 lits:∀ x∈xs.take j,litB x=true
theorem OnceAt.start (xs:List Int):OnceAt xs 0 [] (fun _=>0) false:=⟨rfl,fun u=>by simp,rfl,by simp⟩
theorem take_gi1 {xs:List Int} {j:Nat} (h:j<xs.length):xs.take (j+1)=xs.take j++[gi xs j]:=by
 rw[List.take_add_one]
 simp[gi,List.getD_eq_getElem?_getD,h]
theorem bothB_snoc (xs:List Int) (x:Int):bothB (xs++[x])=(bothB xs||decide (-x∈xs++[x])):=by
 rw[Bool.eq_iff_iff]
 unfold bothB
 simp only[List.any_eq_true,decide_eq_true_eq,Bool.or_eq_true,List.mem_append,List.mem_singleton]
 constructor
 ·rintro⟨y,hy | rfl,hn | hn⟩
  ·exact .inl ⟨y,hy,hn⟩
  ·right;left;rw[←hn,Int.neg_neg];exact hy
  ·exact .inr (.inl hn)
  ·exact .inr (.inr hn)
 ·rintro (⟨y,hy,hn⟩ | hn | hn)
  ·exact⟨y,.inl hy,.inl hn⟩
  ·exact⟨x,.inr rfl,.inl hn⟩
  ·exact⟨x,.inr rfl,.inr hn⟩
theorem OnceAt.step {xs:List Int} {j:Nat} {out:List Int} {f:Int→Int} {both:Bool} (h:OnceAt xs j out f both) {x:Int} (hj:j<xs.length) (hx:gi xs j=x) (hl:litB x=true) :
  OnceAt xs (j+1) (if f x=0 then out++[x] else out) (upd f x 1) (both||decide (0<upd f x 1 (-x))):=by
 have ht:=take_gi1 hj
 rw[hx] at ht
 have hf:∀ u,upd f x 1 u=if u∈xs.take (j+1) then 1 else 0:=by
  intro u
  unfold upd
  rw[ht,h.f u]
  by_cases hu:u=x
  ·subst hu;simp
  ·simp[hu]
 refine⟨?_,hf,?_,?_⟩
 ·rw[ht,onceOut_snoc,h.out]
  have hm:x∈out↔x∈xs.take j:=by rw[←h.out,onceOut_mem];simp
  rw[h.f x]
  by_cases hxx:x∈xs.take j
  ·rw[if_pos hxx,if_pos (hm.2 hxx),if_neg (by omega)]
  ·rw[if_neg hxx,if_neg (fun e=>hxx (hm.1 e)),if_pos rfl]
 ·rw[ht,bothB_snoc,h.both,hf,ht]
  congr 1
  split <;> simp[*]
 ·intro y hy
  rw[ht] at hy
  rcases List.mem_append.1 hy with h1 | h1
  ·exact h.lits y h1
  ·simp only[List.mem_singleton] at h1;subst h1;exact hl
theorem OnceAt.bad {xs:List Int} {j:Nat} {x:Int} (hj:j<xs.length) (hx:gi xs j=x) (hl:litB x=false):onceE xs=110:=by
 unfold onceE
 rw[if_neg]
 intro ha
 rw[List.all_eq_true] at ha
 have:=ha x (by rw[←hx];unfold gi;rw[List.getD_eq_getElem?_getD];simp[hj])
 rw[hl] at this
 cases this
theorem OnceAt.done {xs:List Int} {j:Nat} {out:List Int} {f:Int→Int} {both:Bool} (h:OnceAt xs j out f both) (hj:j=xs.length):out=onceL xs∧onceE xs=if both then 112 else 0:=by
 subst hj
 have e:=List.take_length (l:=xs)
 refine⟨by rw[←h.out,e];rfl,?_⟩
 unfold onceE
 rw[if_pos,h.both,e]
 rw[List.all_eq_true]
 intro x hx
 exact h.lits x (by rw[e];exact hx)
end Go.Proofs.PlaitPure
namespace Go.Proofs.YthbbmdnfkkffjaaGreat
open Go.RowKit Go.Maps Go.Proofs.PlaitSep Go.Proofs.PlaitPure
theorem Tryz.keyInt:Keyed Tryz.prog 3:=int_keyed Tryz.underlying3
theorem Tryz.zeroInt (w:World):(zeroValue 3).run Tryz.prog w=.ok (.int .i64 0) w:=by kernel_rfl
theorem lit_wf {x:Int} (h:litB x=true):(Lit.int .i64 x).wf=true:=by
 rw[litB_iff] at h
 have e1:IntKind.i64.min=-9223372036854775808:=by decide
 have e2:IntKind.i64.max=9223372036854775807:=by decide
 simp only[Lit.wf,e1,e2,Bool.and_eq_true,decide_eq_true_eq]
 omega
def OncePost (w:World) (xs:List Int) (e:Ending) (w':World):Prop :=
 (onceE xs=0→∃ oa oc,e=.returned (.tuple #[slv oa (onceL xs).length oc,.int .i64 0])∧St w.heap.size w w' (sli 3 oa oc (onceL xs))) ∧
 (onceE xs≠0→e=.returned (.tuple #[.slice none 0 0,.int .i64 (onceE xs)])∧St w.heap.size w w' emp)
set_option maxRecDepth 100000 in
set_option maxHeartbeats 2000000 in
theorem once_any (A:Option Addr) (n c:Nat) (xs:List Int) (w:World) (hr:Rd w A n xs) (hn:n≤1000000) :
  Calls Tryz.prog 82 #[.slice A n c] w (OncePost w xs):=by
 have hmm:=@run_makeMap Tryz.prog
 have HR:=Lib.hid hr
 have HN:=Lib.hid hn
 clear hr
 go_enter Tryz.func82,Tryz.ntmps82
 go_wp2
 go_loopw [5,6,12] (fun v5 v6 v12 wr=>∃ (j:Nat) (out:List Int) (f:Int→Int) (both:Bool) (oa:Option Nat) (oc:Nat),j≤n∧v12=.int .i64 j∧v5=slv oa out.length oc∧v6=.bool both∧out.length≤j∧Hid (OnceAt xs j out f both) ∧
   Hid (St w.heap.size w wr (star (mp Tryz.prog 3 3 w.heap.size j f) (sli 3 oa oc out)))) (fun _ _ v12 _=>n-(intOf v12).toNat)
 case atStart =>
  refine⟨0,[],fun _=>0,false,none,0,Nat.zero_le _,rfl,rfl,rfl,Nat.le_refl _,OnceAt.start xs,?_⟩
  rw[sli_nil]
  exact St.mp_new (St.start w)
 case round =>
  obtain⟨j,out,f,both,oa,oc,hj,rfl,rfl,rfl,hol,HO,HST⟩:=hrel
  by_cases hjn:j<n
  ·obtain⟨ab,ao,rfl,hc⟩:=(HR.out.grow HST.out.below).cells (by omega)
   have d1:=hc j hjn
   clear hc
   obtain⟨x,hx⟩:∃ x,gi xs j=x:=⟨_,rfl⟩
   rw[hx] at d1
   have hjx:j<xs.length:=by have:=HR.out.len;omega
   have hlt:=lit_any x wr
   obtain⟨lb,hlb⟩:∃ lb,litB x=lb:=⟨_,rfl⟩
   rw[hlb] at hlt
   have HLT:=Lib.hid hlt
   have HLB:=Lib.hid hlb
   have HX:=Lib.hid hx
   have HJX:=Lib.hid hjx
   clear hx hlt hlb hjx
   cases lb with
   | false =>
    go_wp2_with (go_at_call 100;refine (HLT.out).mono ?_;rintro e w2 ⟨rfl,rfl⟩)
    go_ret2
    have he:=OnceAt.bad HJX.out HX.out HLB.out
    refine⟨fun h=>absurd (he.symm.trans h) (by decide),fun _=>⟨by rw[he];rfl,?_⟩⟩
    exact⟨HST.out.below,HST.out.base,Sat.emp _ _⟩
   | true =>
    obtain⟨hx1,hx2,hx3⟩:=litB_iff.1 HLB.out
    have hstep:=HO.out.step HJX.out HX.out HLB.out
    have hl1:=St.mp_look HST.out Tryz.keyInt Tryz.underlying102 Tryz.underlying3 Tryz.underlying3 Tryz.zeroInt x (lit_wf HLB.out)
    obtain⟨fx,hfx⟩:∃ fx,f x=fx:=⟨_,rfl⟩
    rw[hfx] at hl1 hstep
    have HSTEP:=Lib.hid hstep
    have hst:=HST.out
    have hst2:St w.heap.size w wr (star (sli 3 oa oc out) (mp Tryz.prog 3 3 w.heap.size j f)):=hst.conseq (star_comm _ _)
    have HST2:=Lib.hid hst2
    have HFX:=Lib.hid hfx
    clear hx1 hstep hfx hst hst2
    obtain⟨ol,hol2⟩:∃ ol,out.length=ol:=⟨_,rfl⟩
    rw[hol2] at hol ⊢
    have HOL:=Lib.hid hol2
    clear hol2
    unfold slv
    by_cases h0:fx=0
    ·subst h0
     have hstep0:=HSTEP.out
     rw[if_pos rfl] at hstep0
     have HSTEP0:=Lib.hid hstep0
     clear hstep0 HSTEP
     cases both
     ·go_wp2_with (first | (go_at_call 100;refine (HLT.out).mono ?_;rintro e w2 ⟨rfl,rfl⟩) | (at_builtin;refine wpList_append_int rfl _ _ 27 3 rfl Tryz.underlying27 Tryz.infoInt HST2.out ol HOL.out rfl x rfl (by omega) ?_;intro b' c' w1 h4;have h5:=h4.conseq (star_comm _ _);clear h4) | (at_mapUpdate;refine wpList_map_put rfl _ _ _ rfl h5 Tryz.keyInt Tryz.underlying102 Tryz.underlying3 Tryz.underlying3 (by simp only[maxLen];omega) x 1 rfl rfl rfl (lit_wf HLB.out) (by decide) ?_;intro w3 h3;have hl2:=St.mp_look h3 Tryz.keyInt Tryz.underlying102 Tryz.underlying3 Tryz.underlying3 Tryz.zeroInt (-x) (lit_wf (litB_neg HLB.out));have H3:=Lib.hid h3;clear h3))
      go_roundw
      case rel =>
       have hs:=HSTEP0.out
       rw[Bool.false_or] at hs
       refine⟨j+1,out++[x],upd f x 1,_,some b',c',by omega,by go_num,?_,rfl,by rw[List.length_append,HOL.out];simp;omega,hs,H3.out⟩
       rw[List.length_append,HOL.out];rfl
      case measure=>simp[intOf];omega
     ·go_wp2_with (first | (go_at_call 100;refine (HLT.out).mono ?_;rintro e w2 ⟨rfl,rfl⟩) | (at_builtin;refine wpList_append_int rfl _ _ 27 3 rfl Tryz.underlying27 Tryz.infoInt HST2.out ol HOL.out rfl x rfl (by omega) ?_;intro b' c' w1 h4;have h5:=h4.conseq (star_comm _ _);clear h4) | (at_mapUpdate;refine wpList_map_put rfl _ _ _ rfl h5 Tryz.keyInt Tryz.underlying102 Tryz.underlying3 Tryz.underlying3 (by simp only[maxLen];omega) x 1 rfl rfl rfl (lit_wf HLB.out) (by decide) ?_;intro w3 h3;have hl2:=St.mp_look h3 Tryz.keyInt Tryz.underlying102 Tryz.underlying3 Tryz.underlying3 Tryz.zeroInt (-x) (lit_wf (litB_neg HLB.out));have H3:=Lib.hid h3;clear h3))
      go_roundw
      case rel =>
       have hs:=HSTEP0.out
       rw[Bool.true_or] at hs
       refine⟨j+1,out++[x],upd f x 1,_,some b',c',by omega,by go_num,?_,rfl,by rw[List.length_append,HOL.out];simp;omega,hs,H3.out⟩
       rw[List.length_append,HOL.out];rfl
      case measure=>simp[intOf];omega
    ·have h0':(fx==0)=false:=by simpa using h0
     have hstep0:=HSTEP.out
     rw[if_neg h0] at hstep0
     have HSTEP0:=Lib.hid hstep0
     clear hstep0 HSTEP
     cases both
     ·go_wp2_with (first | (go_at_call 100;refine (HLT.out).mono ?_;rintro e w2 ⟨rfl,rfl⟩) | (at_mapUpdate;refine wpList_map_put rfl _ _ _ rfl HST.out Tryz.keyInt Tryz.underlying102 Tryz.underlying3 Tryz.underlying3 (by simp only[maxLen];omega) x 1 rfl rfl rfl (lit_wf HLB.out) (by decide) ?_;intro w3 h3;have hl2:=St.mp_look h3 Tryz.keyInt Tryz.underlying102 Tryz.underlying3 Tryz.underlying3 Tryz.zeroInt (-x) (lit_wf (litB_neg HLB.out));have H3:=Lib.hid h3;clear h3))
      go_roundw
      case rel =>
       have hs:=HSTEP0.out
       rw[Bool.false_or] at hs
       refine⟨j+1,out,upd f x 1,_,oa,oc,by omega,by go_num,?_,rfl,by rw[HOL.out];omega,hs,H3.out⟩
       rw[HOL.out]
      case measure=>simp[intOf];omega
     ·go_wp2_with (first | (go_at_call 100;refine (HLT.out).mono ?_;rintro e w2 ⟨rfl,rfl⟩) | (at_mapUpdate;refine wpList_map_put rfl _ _ _ rfl HST.out Tryz.keyInt Tryz.underlying102 Tryz.underlying3 Tryz.underlying3 (by simp only[maxLen];omega) x 1 rfl rfl rfl (lit_wf HLB.out) (by decide) ?_;intro w3 h3;have hl2:=St.mp_look h3 Tryz.keyInt Tryz.underlying102 Tryz.underlying3 Tryz.underlying3 Tryz.zeroInt (-x) (lit_wf (litB_neg HLB.out));have H3:=Lib.hid h3;clear h3))
      go_roundw
      case rel =>
       have hs:=HSTEP0.out
       rw[Bool.true_or] at hs
       refine⟨j+1,out,upd f x 1,_,oa,oc,by omega,by go_num,?_,rfl,by rw[HOL.out];omega,hs,H3.out⟩
       rw[HOL.out]
      case measure=>simp[intOf];omega
  ·obtain rfl:j=n:=by omega
   have hd:=HO.out.done (by have:=HR.out.len;omega)
   have HD:=Lib.hid hd
   clear hd
   have hs:St w.heap.size w wr (sli 3 oa oc out):=HST.out.dropl
   have HS:=Lib.hid hs
   clear hs
   cases both
   ·go_wp2
    go_ret2
    obtain⟨rfl,he⟩:=HD.out
    rw[if_neg (by decide)] at he
    exact⟨fun _=>⟨oa,oc,rfl,HS.out⟩,fun h=>absurd he h⟩
   ·go_wp2
    go_ret2
    obtain⟨rfl,he⟩:=HD.out
    rw[if_pos trivial] at he
    exact⟨fun h=>absurd (he.symm.trans h) (by decide),fun _=>⟨by rw[he];rfl,⟨HS.out.below,HS.out.base,Sat.emp _ _⟩⟩⟩
end Go.Proofs.YthbbmdnfkkffjaaGreat
namespace Go.Proofs.PlaitPure
def SM.addC (S:SM) (l:List Int):SM:={ S with cls:=S.cls++[⟨0,1,l⟩] }
def SM.addS (S:SM) (l:List Int):SM:=if l.length<2 then S.addC l else ((S.addC l).watch (gi l 0) S.cls.length).watch (gi l 1) S.cls.length
def addF (S:SM) (xs:List Int):SM×Nat×Int :=
 if onceE xs≠0 then (S,0,onceE xs) else if S.most<S.words.length+2+(onceL xs).length then (S,0,111) else (S.addS (onceL xs),S.cls.length,0)
theorem SM.addC_words (S:SM) (l:List Int):(S.addC l).words=S.words++0 :: 1 :: l:=by
 unfold SM.addC SM.words
 simp[Cl.words]
theorem SM.addC_length (S:SM) (l:List Int):(S.addC l).cls.length=S.cls.length+1:=by simp[SM.addC]
theorem SM.addC_cl (S:SM) (l:List Int) (i:Nat):(S.addC l).cl i=if i=S.cls.length then ⟨0,1,l⟩ else S.cl i:=by
 unfold SM.cl SM.addC
 simp only[List.getD_eq_getElem?_getD,List.getElem?_append]
 split
 ·rename_i h
  rw[if_neg (by omega)]
 ·rename_i h
  split
  ·rename_i e;subst e;simp
  ·rename_i e
   rw[List.getElem?_eq_none (l:=[(⟨0,1,l⟩:Cl)]) (by simp;omega),List.getElem?_eq_none (l:=S.cls) (by omega)]
theorem SM.addC_begins (S:SM) (l:List Int):(S.addC l).begins=S.begins++[(S.words.length:Int)]:=by
 unfold SM.begins
 rw[S.addC_length,List.range_succ,List.map_append]
 congr 1
 ·refine List.map_congr_left fun i hi=>?_
  rw[List.mem_range] at hi
  unfold SM.begin SM.addC
  rw[List.take_append_of_le_length (by omega)]
 ·unfold SM.begin SM.addC SM.words
  simp
theorem SM.addC_short (S:SM) (l:List Int):(S.addC l).short=S.short++if l.length<2 then [(S.cls.length:Int)] else []:=by
 rw[SM.short_eq,SM.short_eq]
 unfold SM.shortN
 rw[S.addC_length,List.range_succ,List.filter_append,List.map_append]
 have e:∀ i,(S.addC l).isShort i=decide (((S.addC l).cl i).lits.length<2):=fun _=>rfl
 congr 1
 ·congr 1
  refine List.filter_congr fun i hi=>?_
  rw[List.mem_range] at hi
  rw[e,S.addC_cl,if_neg (by omega)]
  rfl
 ·simp only[List.filter_cons,List.filter_nil,e,S.addC_cl,if_true]
  split
  ·rename_i h
   rw[if_pos (by simpa using h)];rfl
  ·rename_i h
   rw[if_neg (by simpa using h)];rfl
theorem SM.watch_words (S:SM) (x:Int) (r:Nat):(S.watch x r).words=S.words:=rfl
theorem onceE_zero {xs:List Int} (h:onceE xs=0):(∀ x∈xs,litB x=true)∧∀ x∈xs,-x∉xs:=by
 unfold onceE at h
 split at h
 ·rename_i ha
  split at h
  ·cases h
  ·rename_i hb
   rw[List.all_eq_true] at ha
   refine⟨ha,fun x hx hn=>hb ?_⟩
   unfold bothB
   rw[List.any_eq_true]
   exact⟨x,hx,by simpa using hn⟩
 ·cases h
theorem addC_cl_ok {xs:List Int} (h:onceE xs=0):(⟨0,1,onceL xs⟩:Cl).ok:=by
 obtain⟨h1,h2⟩:=onceE_zero h
 refine⟨fun x hx=>h1 x (onceL_mem.1 hx),onceL_nodup xs,fun x hx hn=>h2 x (onceL_mem.1 hx) (onceL_mem.1 hn),fun h=>?_,fun h=>?_,fun h=>by simp⟩
 ·simp only at h ⊢;omega
 ·simp only at h ⊢;omega
theorem getW_addC (S:SM) (l:List Int) (i:Nat):(S.addC l).getW i=S.getW i:=rfl
theorem cl_watch (S:SM) (x:Int) (r i:Nat):(S.watch x r).cl i=S.cl i:=rfl
theorem topOf_le {i:Nat} (h:i≤131073):topOf i≤131074:=by unfold topOf;split <;> omega
theorem SM.Inv.addS {S:SM} (h:S.Inv) {xs:List Int} (hx:onceE xs=0) (hr:S.words.length+2+(onceL xs).length≤S.most):(S.addS (onceL xs)).Inv:=by
 have hok:=addC_cl_ok hx
 obtain⟨l,hl⟩:∃ l,onceL xs=l:=⟨_,rfl⟩
 rw[hl] at hok hr ⊢
 have hnew:∀ i,S.cls.length∉S.getW i:=fun i hm=>by have:=((h.watch i _).1 hm).1;omega
 unfold SM.addS
 split
 ·rename_i hs
  refine⟨h.most,?_,?_,h.wlen,?_,h.nodup⟩
  ·rw[S.addC_words]
   simp only[List.length_append,List.length_cons]
   show _≤S.most
   omega
  ·intro i hi
   rw[S.addC_cl]
   split
   ·exact hok
   ·rw[S.addC_length] at hi
    exact h.cl i (by omega)
  ·intro i r
   rw[getW_addC,h.watch i r,S.addC_length,S.addC_cl]
   constructor
   ·rintro⟨h1,h2⟩
    exact⟨by omega,by rw[if_neg (by omega)];exact h2⟩
   ·rintro⟨h1,h2⟩
    split at h2
    ·have:=h2.1
     simp only at this
     omega
    ·exact⟨by omega,h2⟩
 ·rename_i hs
  have hl0:litB (gi l 0)=true:=hok.lits _ (getL_mem (l:=l) (i:=0) (by omega))
  have hl1:litB (gi l 1)=true:=hok.lits _ (getL_mem (by simp only;omega))
  have hi0:=litB_iff.1 hl0
  have hi1:=litB_iff.1 hl1
  have hne:idx (gi l 0)≠idx (gi l 1):=fun e=>by
   have:=gi_inj hok.nodup (i:=0) (j:=1) (by simp only;omega) (by simp only;omega) (idx_inj e)
   omega
  have hget:∀ i,(((S.addC l).watch (gi l 0) S.cls.length).watch (gi l 1) S.cls.length).getW i=(S.getW i++if i=idx (gi l 0)∨i=idx (gi l 1) then [S.cls.length] else []):=by
   intro i
   rw[SM.getW_watch,SM.getW_watch,getW_addC]
   by_cases e1:i=idx (gi l 1)
   ·rw[if_pos e1,if_neg (by rw[e1];exact fun e=>hne e.symm),if_pos (.inr e1)]
   ·rw[if_neg e1]
    by_cases e0:i=idx (gi l 0)
    ·rw[if_pos e0,if_pos (.inl e0)]
    ·rw[if_neg e0,if_neg (by simp[e0,e1])];simp
  refine⟨h.most,?_,?_,?_,?_,?_⟩
  ·rw[SM.watch_words,SM.watch_words,S.addC_words]
   simp only[List.length_append,List.length_cons]
   show _≤S.most
   omega
  ·intro i hi
   rw[cl_watch,cl_watch,S.addC_cl]
   split
   ·exact hok
   ·have:i<(S.addC l).cls.length:=hi
    rw[S.addC_length] at this
    exact h.cl i (by omega)
  ·rw[SM.watch_length,SM.watch_length]
   have:=topOf_le (idx_le hi0.2.1 hi0.2.2)
   have:=topOf_le (idx_le hi1.2.1 hi1.2.2)
   have:(S.addC l).watches.length≤131074:=h.wlen
   omega
  ·intro i r
   rw[hget,cl_watch,cl_watch,S.addC_cl]
   show _↔r<(S.addC l).cls.length∧_
   rw[S.addC_length,List.mem_append,h.watch i r]
   by_cases hrr:r=S.cls.length
   ·subst hrr
    rw[if_pos rfl]
    unfold Cl.watches
    simp only
    constructor
    ·rintro (h1 | h1)
     ·omega
     ·split at h1
      ·rename_i hh
       refine⟨by omega,by omega,?_⟩
       rcases hh with rfl | rfl <;> simp
      ·cases h1
    ·rintro⟨_,_,h2⟩
     right
     rw[if_pos (by rcases h2 with h2 | h2 <;> simp[h2])]
     simp
   ·rw[if_neg hrr]
    constructor
    ·rintro (h1 | h1)
     ·exact⟨by omega,h1.2⟩
     ·split at h1
      ·simp only[List.mem_singleton] at h1;omega
      ·cases h1
    ·rintro⟨h1,h2⟩
     exact .inl ⟨by omega,h2⟩
  ·intro i
   rw[hget]
   split
   ·rw[List.nodup_append]
    refine⟨h.nodup i,by simp,?_⟩
    intro a ha b hb e
    simp only[List.mem_singleton] at hb
    subst hb e
    exact hnew i ha
   ·simpa using h.nodup i
theorem SM.Inv.add {S:SM} (h:S.Inv) (xs:List Int):(addF S xs).1.Inv:=by
 unfold addF
 split
 ·exact h
 ·rename_i h1
  split
  ·exact h
  ·rename_i h2
   exact h.addS (by simpa using h1) (by omega)
end Go.Proofs.PlaitPure

/-
  Parts of the proof, joined by program: SatAt.
-/
import Derived.Test.YthbbmdnfkkffjaaGreatY01
import Derived.Test.YthbbmdnfkkffjaaGreatY02
import Derived.Lib.Hide
set_option maxHeartbeats 8000000
set_option maxRecDepth 100000
namespace Go.Proofs.YthbbmdnfkkffjaaGreat
open Go.RowKit Go.Proofs.aC Go.Proofs.au Go.Proofs.aA
structure MM where
 most:Nat
 conf:Nat
 words:Nat
 given:Fl (Fl Int)
 fresh:Nat
 cls:Fl (Fl Nat×Int)
 aj:Fl (Fl Nat)
 value:Fl Int
 level:Fl Nat
 reason:Fl Int
 phase:Fl Bool
 occurs:Fl Bool
 trail:Fl Nat
 ends:Fl Nat
 next:Nat
 hl:Fl Nat
 place:Fl Nat
 met:Fl Nat
 learned:Fl (Fl Int)
 steps:Fl (Fl Int)
 units:Fl Int
 model:Fl Bool
 core:Fl Int
 last:Fl Int
 told:Int
def MM.sv (M:MM):SM where
 most:=M.most
 conf:=M.conf
 words:=M.words
 given:=M.given.xs.map (·.xs)
 fresh:=M.fresh
 cls:=M.cls.xs.map fun x=>(x.1.xs,x.2)
 aj:=M.aj.xs.map (·.xs)
 value:=M.value.xs
 level:=M.level.xs
 reason:=M.reason.xs
 phase:=M.phase.xs
 occurs:=M.occurs.xs
 trail:=M.trail.xs
 ends:=M.ends.xs
 next:=M.next
 hl:=M.hl.xs
 place:=M.place.xs
 met:=M.met.xs
 learned:=M.learned.xs.map (·.xs)
 steps:=M.steps.xs.map (·.xs)
 units:=M.units.xs
 model:=M.model.xs
 core:=M.core.xs
 last:=M.last.xs
 told:=M.told
abbrev MM.ak (M:MM) (f:Fl Int):MM:={ M with value:=f }
abbrev MM.aD (M:MM) (f:Fl Nat):MM:={ M with level:=f }
abbrev MM.aN (M:MM) (f:Fl Int):MM:={ M with reason:=f }
abbrev MM.cZ (M:MM) (f:Fl Bool):MM:={ M with phase:=f }
abbrev MM.dZ (M:MM) (f:Fl Bool):MM:={ M with occurs:=f }
abbrev MM.kF (M:MM) (f:Fl Nat):MM:={ M with trail:=f }
abbrev MM.uo (M:MM) (f:Fl Nat):MM:={ M with ends:=f }
abbrev MM.Bd (M:MM) (f:Fl Nat):MM:={ M with hl:=f }
abbrev MM.kG (M:MM) (f:Fl Nat):MM:={ M with place:=f }
abbrev MM.jw (M:MM) (f:Fl Nat):MM:={ M with met:=f }
abbrev MM.Dm (M:MM) (f:Fl Int):MM:={ M with units:=f }
abbrev MM.kH (M:MM) (f:Fl Bool):MM:={ M with model:=f }
abbrev MM.ql (M:MM) (f:Fl Int):MM:={ M with core:=f }
abbrev MM.DY (M:MM) (f:Fl Int):MM:={ M with last:=f }
abbrev MM.Dn (M:MM) (x:Nat):MM:={ M with words:=x }
abbrev MM.rJ (M:MM) (x:Nat):MM:={ M with fresh:=x }
abbrev MM.Km (M:MM) (x:Nat):MM:={ M with next:=x }
abbrev MM.uq (M:MM) (x:Int):MM:={ M with told:=x }
abbrev MM.Ko (M:MM) (f:Fl (Fl Int)):MM:={ M with given:=f }
abbrev MM.aY (M:MM) (f:Fl (Fl Nat)):MM:={ M with aj:=f }
abbrev MM.fq (M:MM) (f:Fl (Fl Int)):MM:={ M with learned:=f }
abbrev MM.Dp (M:MM) (f:Fl (Fl Int)):MM:={ M with steps:=f }
abbrev MM.DZ (M:MM) (f:Fl (Fl Nat×Int)):MM:={ M with cls:=f }
abbrev MM.aP (M:MM) (a b c:Fl Nat):MM:={ M with hl:=a,place:=b,met:=c }
abbrev MM.fI (M:MM) (a b:Fl Nat):MM:={ M with hl:=a,place:=b }
def aI (M:MM):List Value :=
 [vN M.most,vN M.conf,vN M.words,M.given.v,vN M.fresh,M.cls.v,M.aj.v,M.value.v,M.level.v,M.reason.v,M.phase.v,M.occurs.v,M.trail.v,M.ends.v,vN M.next,M.hl.v,M.place.v,M.met.v,M.learned.v,M.steps.v,M.units.v,M.model.v,M.core.v,M.last.v,vI M.told]
def jA (l:List (Fl Nat×Int)):List Value:=l.flatMap fun x=>[x.1.v,vI x.2]
def nN (l:List (Fl Nat×Int)):List HP:=l.map fun x=>x.1.hp 98 vL
def parts (p:Nat) (M:MM):List HP :=
 [pt p 92 (aI M),
  M.value.hp 114 v8,
  M.level.hp 3 vN,
  M.reason.hp 3 vI,
  M.phase.hp 4 vB,
  M.occurs.hp 4 vB,
  M.trail.hp 98 vL,
  M.ends.hp 3 vN,
  M.hl.hp 3 vN,
  M.place.hp 3 vN,
  M.met.hp 137 v64,
  M.units.hp 3 vI,
  M.model.hp 4 vB,
  M.core.hp 3 vI,
  M.last.hp 3 vI,
  M.given.outer 27,stars (M.given.rows 3 vI),
  sl M.cls.a M.cls.xs.length M.cls.c 123 2 (jA M.cls.xs),stars (nN M.cls.xs),
  M.aj.outer 27,stars (M.aj.rows 3 vN),
  M.learned.outer 27,stars (M.learned.rows 3 vI),
  M.steps.outer 27,stars (M.steps.rows 3 vI)]
structure At (B:Nat) (w0 w:World) (p:Nat) (M:MM) (F:HP):Prop where
 st:St B w0 w (star (stars (parts p M)) F)
 bA:M.last.xs=[]→M.last.a=none
section
variable {B:Nat} {w0 w:World} {p:Nat} {M:MM} {F:HP}
theorem At.drewN (h:At B w0 w p M F) (n:Nat):At B w0 (w.drewN n) p M F:=⟨h.st.drewN n,h.bA⟩
theorem At.drawn {w':World} (h:At B w0 w p M F) (d:bJ w w'):At B w0 w' p M F:=⟨h.st.drawn d,h.bA⟩
theorem At.grow {w':World} (h:At B w0 w p M F) (d:Below w.heap.size w w'):At B w0 w' p M F:=⟨h.st.grow d,h.bA⟩
theorem At.alloc (h:At B w0 w p M F) (o:Obj):At B w0 (w.alloc o) p M F:=⟨h.st.alloc o,h.bA⟩
theorem At.iL {P:HP} (h:At B w0 w p M (star P F)):At B w0 w p M F:=⟨(h.st.aB (show _=star (star (stars (parts p M)) F) P by ac_rfl)).drop,h.bA⟩
theorem At.frame {G:HP} (h:At B w0 w p M F) (e:F=G):At B w0 w p M G:=e▸h
theorem At.nest {w':World} {P:HP} (h:At B w0 w p M F) (k:St w.heap.size w w' P):At B w0 w' p M (star P F):=⟨(h.st.nest k).aB (by ac_rfl),h.bA⟩
theorem At.qJ (h:At B w0 w p M F):St B w0 w (star (pt p 92 (aI M)) (star (stars ((parts p M).eraseIdx 0)) F)):=h.st.aX (k:=0) rfl
theorem At.fz (h:At B w0 w p M F) (j:Nat):w.frozen? ⟨p,j,none⟩=false:=h.qJ.bU j
theorem At.adB (h:At B w0 w p M F):w.cell? ⟨p,0,none⟩=some (.int .i64 M.most):=h.qJ.aG 0
theorem At.adC (h:At B w0 w p M F):w.cell? ⟨p,1,none⟩=some (.int .i64 M.conf):=h.qJ.aG 1
theorem At.Dq (h:At B w0 w p M F):w.cell? ⟨p,2,none⟩=some (.int .i64 M.words):=h.qJ.aG 2
theorem At.SK (h:At B w0 w p M F):w.cell? ⟨p,4,none⟩=some (.int .i64 M.fresh):=h.qJ.aG 4
theorem At.Bf (h:At B w0 w p M F):w.cell? ⟨p,14,none⟩=some (.int .i64 M.next):=h.qJ.aG 14
theorem At.qm (h:At B w0 w p M F):w.cell? ⟨p,24,none⟩=some (.int .i64 M.told):=h.qJ.aG 24
theorem At.kI (h:At B w0 w p M F):w.cell? ⟨p,7,none⟩=some (.slice (M.value.a.map fun b=>⟨b,0,none⟩) M.value.xs.length M.value.c):=h.qJ.aG 7
theorem At.vH (h:At B w0 w p M F):w.cell? ⟨p,8,none⟩=some (.slice (M.level.a.map fun b=>⟨b,0,none⟩) M.level.xs.length M.level.c):=h.qJ.aG 8
theorem At.nO (h:At B w0 w p M F):w.cell? ⟨p,9,none⟩=some (.slice (M.reason.a.map fun b=>⟨b,0,none⟩) M.reason.xs.length M.reason.c):=h.qJ.aG 9
theorem At.Kq (h:At B w0 w p M F):w.cell? ⟨p,10,none⟩=some (.slice (M.phase.a.map fun b=>⟨b,0,none⟩) M.phase.xs.length M.phase.c):=h.qJ.aG 10
theorem At.D5 (h:At B w0 w p M F):w.cell? ⟨p,11,none⟩=some (.slice (M.occurs.a.map fun b=>⟨b,0,none⟩) M.occurs.xs.length M.occurs.c):=h.qJ.aG 11
theorem At.jV (h:At B w0 w p M F):w.cell? ⟨p,12,none⟩=some (.slice (M.trail.a.map fun b=>⟨b,0,none⟩) M.trail.xs.length M.trail.c):=h.qJ.aG 12
theorem At.qo (h:At B w0 w p M F):w.cell? ⟨p,13,none⟩=some (.slice (M.ends.a.map fun b=>⟨b,0,none⟩) M.ends.xs.length M.ends.c):=h.qJ.aG 13
theorem At.wD (h:At B w0 w p M F):w.cell? ⟨p,15,none⟩=some (.slice (M.hl.a.map fun b=>⟨b,0,none⟩) M.hl.xs.length M.hl.c):=h.qJ.aG 15
theorem At.y9 (h:At B w0 w p M F):w.cell? ⟨p,16,none⟩=some (.slice (M.place.a.map fun b=>⟨b,0,none⟩) M.place.xs.length M.place.c):=h.qJ.aG 16
theorem At.LZ (h:At B w0 w p M F):w.cell? ⟨p,17,none⟩=some (.slice (M.met.a.map fun b=>⟨b,0,none⟩) M.met.xs.length M.met.c):=h.qJ.aG 17
theorem At.zf (h:At B w0 w p M F):w.cell? ⟨p,20,none⟩=some (.slice (M.units.a.map fun b=>⟨b,0,none⟩) M.units.xs.length M.units.c):=h.qJ.aG 20
theorem At.zh (h:At B w0 w p M F):w.cell? ⟨p,21,none⟩=some (.slice (M.model.a.map fun b=>⟨b,0,none⟩) M.model.xs.length M.model.c):=h.qJ.aG 21
theorem At.uw (h:At B w0 w p M F):w.cell? ⟨p,22,none⟩=some (.slice (M.core.a.map fun b=>⟨b,0,none⟩) M.core.xs.length M.core.c):=h.qJ.aG 22
theorem At.uy (h:At B w0 w p M F):w.cell? ⟨p,23,none⟩=some (.slice (M.last.a.map fun b=>⟨b,0,none⟩) M.last.xs.length M.last.c):=h.qJ.aG 23
theorem At.rM (h:At B w0 w p M F):w.cell? ⟨p,3,none⟩=some (.slice (M.given.a.map fun b=>⟨b,0,none⟩) M.given.xs.length M.given.c):=h.qJ.aG 3
theorem At.uz (h:At B w0 w p M F):w.cell? ⟨p,5,none⟩=some (.slice (M.cls.a.map fun b=>⟨b,0,none⟩) M.cls.xs.length M.cls.c):=h.qJ.aG 5
theorem At.iD (h:At B w0 w p M F):w.cell? ⟨p,6,none⟩=some (.slice (M.aj.a.map fun b=>⟨b,0,none⟩) M.aj.xs.length M.aj.c):=h.qJ.aG 6
theorem At.nC (h:At B w0 w p M F):w.cell? ⟨p,18,none⟩=some (.slice (M.learned.a.map fun b=>⟨b,0,none⟩) M.learned.xs.length M.learned.c):=h.qJ.aG 18
theorem At.zi (h:At B w0 w p M F):w.cell? ⟨p,19,none⟩=some (.slice (M.steps.a.map fun b=>⟨b,0,none⟩) M.steps.xs.length M.steps.c):=h.qJ.aG 19
theorem At.Bg (h:At B w0 w p M F) (x:Nat):At B w0 (w.setCell ⟨p,2,none⟩ (.int .i64 x)) p (M.Dn x) F :=
 ⟨((h.qJ.bM 2 (vN x)).aH (Ps:=parts p M) (k:=0) (by simp[parts])).aB rfl,h.bA⟩
theorem At.Uq (h:At B w0 w p M F) (x:Nat):At B w0 (w.setCell ⟨p,4,none⟩ (.int .i64 x)) p (M.rJ x) F :=
 ⟨((h.qJ.bM 4 (vN x)).aH (Ps:=parts p M) (k:=0) (by simp[parts])).aB rfl,h.bA⟩
theorem At.uD (h:At B w0 w p M F) (x:Nat):At B w0 (w.setCell ⟨p,14,none⟩ (.int .i64 x)) p (M.Km x) F :=
 ⟨((h.qJ.bM 14 (vN x)).aH (Ps:=parts p M) (k:=0) (by simp[parts])).aB rfl,h.bA⟩
theorem At.zk (h:At B w0 w p M F) (x:Int):At B w0 (w.setCell ⟨p,24,none⟩ (.int .i64 x)) p (M.uq x) F :=
 ⟨((h.qJ.bM 24 (vI x)).aH (Ps:=parts p M) (k:=0) (by simp[parts])).aB rfl,h.bA⟩
theorem At.zm (h:At B w0 w p M F):St B w0 w (star (sl M.value.a M.value.xs.length M.value.c 114 1 (M.value.xs.map v8)) (star (stars ((parts p M).eraseIdx 1)) F)):=h.st.aX (k:=1) rfl
theorem At.zq (h:At B w0 w p M F) (hi:0<M.value.xs.length):∃ b,M.value.a=some b:=by
 obtain⟨_,_,_,hn,_⟩:=h.zm.sat.aR
 cases e:M.value.a with
 | none=>have:=(hn e).1;omega
 | some b=>exact⟨b,rfl⟩
theorem At.zu (h:At B w0 w p M F) {b i:Nat} (hb:M.value.a=some b) {x:Int} (hi:M.value.xs[i]?=some x):w.cell? ⟨b,i,none⟩=some (v8 x)∧w.frozen? ⟨b,i,none⟩=false:=by
 have h1:=h.zm;rw[hb] at h1;exact⟨by rw[h1.aW i (by rw[List.length_map];exact (List.getElem?_eq_some_iff.1 hi).1),List.getElem?_map,hi];rfl,h1.bZ i⟩
theorem At.SL (h:At B w0 w p M F) {b:Nat} (hb:M.value.a=some b):b≠p:=by
 have h1:=h.zm;rw[hb] at h1;have h2:St B w0 w (star (pt p 92 (aI M)) (star (sl (some b) M.value.xs.length M.value.c 114 1 (M.value.xs.map v8)) (star (stars (((parts p M).eraseIdx 1).eraseIdx 0)) F))):=h1.aB (by rw[aZ (Ps:=(parts p M).eraseIdx 1) (k:=0) (P:=pt p 92 (aI M)) rfl];ac_rfl);exact (h2.sat.gW).symm
theorem At.vJ (h:At B w0 w p M F) {b i:Nat} (hb:M.value.a=some b) (hi:i<M.value.xs.length) (x:Int):At B w0 (w.setCell ⟨b,i,none⟩ (v8 x)) p (M.ak ⟨M.value.a,M.value.c,M.value.xs.set i x⟩) F:=by
 have h1:=h.zm;rw[hb] at h1;refine⟨((h1.fH i (v8 x) (by simpa using hi)).aH (Ps:=parts p M) (k:=1) (by simp[parts])).aB ?_,h.bA⟩;simp only[parts,aI,Fl.hp,Fl.v,List.length_set,List.map_set,List.set_cons_succ,List.set_cons_zero,hb]
theorem At.Qi {b' n c':Nat} {x:Int} (hl:M.last.xs=[]→M.last.a=none) (hn:M.value.xs.length=n) (h:St B w0 w (star (sl (some b') (n+1) c' 114 1 (M.value.xs.map v8++[v8 x])) (star (stars ((parts p M).eraseIdx 1)) F))) :
  (w.cell? ⟨p,7,none⟩=some (.slice (M.value.a.map fun b=>⟨b,0,none⟩) n M.value.c)∧w.frozen? ⟨p,7,none⟩=false)∧At B w0 (w.setCell ⟨p,7,none⟩ (.slice (some ⟨b',0,none⟩) (n+1) c')) p (M.ak ⟨some b',c',M.value.xs++[x]⟩) F:=by
 subst hn;have h2:=h.aH (Ps:=parts p M) (k:=1) (by simp[parts]);have h3:=h2.aX (Ps:=(parts p M).set 1 _) (k:=0) (P:=pt p 92 (aI M)) rfl;refine⟨⟨h3.aG 7,h3.bU 7⟩,?_⟩;have h4:=h3.bM 7 (.slice (some ⟨b',0,none⟩) (M.value.xs.length+1) c');have h5:=h4.aH (Ps:=(parts p M).set 1 (sl (some b') (M.value.xs.length+1) c' 114 1 (M.value.xs.map v8++[v8 x]))) (k:=0) (by simp[parts]);refine⟨h5.aB ?_,hl⟩;simp only[parts,aI,Fl.hp,Fl.v,List.map_append,List.map_cons,List.map_nil,List.length_append,List.length_singleton,List.set_cons_succ,List.set_cons_zero,Option.map_some]
theorem At.zw (h:At B w0 w p M F):St B w0 w (star (sl M.level.a M.level.xs.length M.level.c 3 1 (M.level.xs.map vN)) (star (stars ((parts p M).eraseIdx 2)) F)):=h.st.aX (k:=2) rfl
theorem At.Dr (h:At B w0 w p M F) (hi:0<M.level.xs.length):∃ b,M.level.a=some b:=by
 obtain⟨_,_,_,hn,_⟩:=h.zw.sat.aR
 cases e:M.level.a with
 | none=>have:=(hn e).1;omega
 | some b=>exact⟨b,rfl⟩
theorem At.zx (h:At B w0 w p M F) {b i:Nat} (hb:M.level.a=some b) {x:Nat} (hi:M.level.xs[i]?=some x):w.cell? ⟨b,i,none⟩=some (vN x)∧w.frozen? ⟨b,i,none⟩=false:=by
 have h1:=h.zw;rw[hb] at h1;exact⟨by rw[h1.aW i (by rw[List.length_map];exact (List.getElem?_eq_some_iff.1 hi).1),List.getElem?_map,hi];rfl,h1.bZ i⟩
theorem At.SN (h:At B w0 w p M F) {b:Nat} (hb:M.level.a=some b):b≠p:=by
 have h1:=h.zw;rw[hb] at h1;have h2:St B w0 w (star (pt p 92 (aI M)) (star (sl (some b) M.level.xs.length M.level.c 3 1 (M.level.xs.map vN)) (star (stars (((parts p M).eraseIdx 2).eraseIdx 0)) F))):=h1.aB (by rw[aZ (Ps:=(parts p M).eraseIdx 2) (k:=0) (P:=pt p 92 (aI M)) rfl];ac_rfl);exact (h2.sat.gW).symm
theorem At.IQ (h:At B w0 w p M F) {b i:Nat} (hb:M.level.a=some b) (hi:i<M.level.xs.length) (x:Nat):At B w0 (w.setCell ⟨b,i,none⟩ (vN x)) p (M.aD ⟨M.level.a,M.level.c,M.level.xs.set i x⟩) F:=by
 have h1:=h.zw;rw[hb] at h1;refine⟨((h1.fH i (vN x) (by simpa using hi)).aH (Ps:=parts p M) (k:=2) (by simp[parts])).aB ?_,h.bA⟩;simp only[parts,aI,Fl.hp,Fl.v,List.length_set,List.map_set,List.set_cons_succ,List.set_cons_zero,hb]
theorem At.Qj {b' n c':Nat} {x:Nat} (hl:M.last.xs=[]→M.last.a=none) (hn:M.level.xs.length=n) (h:St B w0 w (star (sl (some b') (n+1) c' 3 1 (M.level.xs.map vN++[vN x])) (star (stars ((parts p M).eraseIdx 2)) F))) :
  (w.cell? ⟨p,8,none⟩=some (.slice (M.level.a.map fun b=>⟨b,0,none⟩) n M.level.c)∧w.frozen? ⟨p,8,none⟩=false)∧At B w0 (w.setCell ⟨p,8,none⟩ (.slice (some ⟨b',0,none⟩) (n+1) c')) p (M.aD ⟨some b',c',M.level.xs++[x]⟩) F:=by
 subst hn;have h2:=h.aH (Ps:=parts p M) (k:=2) (by simp[parts]);have h3:=h2.aX (Ps:=(parts p M).set 2 _) (k:=0) (P:=pt p 92 (aI M)) rfl;refine⟨⟨h3.aG 8,h3.bU 8⟩,?_⟩;have h4:=h3.bM 8 (.slice (some ⟨b',0,none⟩) (M.level.xs.length+1) c');have h5:=h4.aH (Ps:=(parts p M).set 2 (sl (some b') (M.level.xs.length+1) c' 3 1 (M.level.xs.map vN++[vN x]))) (k:=0) (by simp[parts]);refine⟨h5.aB ?_,hl⟩;simp only[parts,aI,Fl.hp,Fl.v,List.map_append,List.map_cons,List.map_nil,List.length_append,List.length_singleton,List.set_cons_succ,List.set_cons_zero,Option.map_some]
theorem At.uE (h:At B w0 w p M F):St B w0 w (star (sl M.reason.a M.reason.xs.length M.reason.c 3 1 (M.reason.xs.map vI)) (star (stars ((parts p M).eraseIdx 3)) F)):=h.st.aX (k:=3) rfl
theorem At.uF (h:At B w0 w p M F) (hi:0<M.reason.xs.length):∃ b,M.reason.a=some b:=by
 obtain⟨_,_,_,hn,_⟩:=h.uE.sat.aR
 cases e:M.reason.a with
 | none=>have:=(hn e).1;omega
 | some b=>exact⟨b,rfl⟩
theorem At.qK (h:At B w0 w p M F) {b i:Nat} (hb:M.reason.a=some b) {x:Int} (hi:M.reason.xs[i]?=some x):w.cell? ⟨b,i,none⟩=some (vI x)∧w.frozen? ⟨b,i,none⟩=false:=by
 have h1:=h.uE;rw[hb] at h1;exact⟨by rw[h1.aW i (by rw[List.length_map];exact (List.getElem?_eq_some_iff.1 hi).1),List.getElem?_map,hi];rfl,h1.bZ i⟩
theorem At.D6 (h:At B w0 w p M F) {b:Nat} (hb:M.reason.a=some b):b≠p:=by
 have h1:=h.uE;rw[hb] at h1;have h2:St B w0 w (star (pt p 92 (aI M)) (star (sl (some b) M.reason.xs.length M.reason.c 3 1 (M.reason.xs.map vI)) (star (stars (((parts p M).eraseIdx 3).eraseIdx 0)) F))):=h1.aB (by rw[aZ (Ps:=(parts p M).eraseIdx 3) (k:=0) (P:=pt p 92 (aI M)) rfl];ac_rfl);exact (h2.sat.gW).symm
theorem At.wV (h:At B w0 w p M F) {b i:Nat} (hb:M.reason.a=some b) (hi:i<M.reason.xs.length) (x:Int):At B w0 (w.setCell ⟨b,i,none⟩ (vI x)) p (M.aN ⟨M.reason.a,M.reason.c,M.reason.xs.set i x⟩) F:=by
 have h1:=h.uE;rw[hb] at h1;refine⟨((h1.fH i (vI x) (by simpa using hi)).aH (Ps:=parts p M) (k:=3) (by simp[parts])).aB ?_,h.bA⟩;simp only[parts,aI,Fl.hp,Fl.v,List.length_set,List.map_set,List.set_cons_succ,List.set_cons_zero,hb]
theorem At.L6 {b' n c':Nat} {x:Int} (hl:M.last.xs=[]→M.last.a=none) (hn:M.reason.xs.length=n) (h:St B w0 w (star (sl (some b') (n+1) c' 3 1 (M.reason.xs.map vI++[vI x])) (star (stars ((parts p M).eraseIdx 3)) F))) :
  (w.cell? ⟨p,9,none⟩=some (.slice (M.reason.a.map fun b=>⟨b,0,none⟩) n M.reason.c)∧w.frozen? ⟨p,9,none⟩=false)∧At B w0 (w.setCell ⟨p,9,none⟩ (.slice (some ⟨b',0,none⟩) (n+1) c')) p (M.aN ⟨some b',c',M.reason.xs++[x]⟩) F:=by
 subst hn;have h2:=h.aH (Ps:=parts p M) (k:=3) (by simp[parts]);have h3:=h2.aX (Ps:=(parts p M).set 3 _) (k:=0) (P:=pt p 92 (aI M)) rfl;refine⟨⟨h3.aG 9,h3.bU 9⟩,?_⟩;have h4:=h3.bM 9 (.slice (some ⟨b',0,none⟩) (M.reason.xs.length+1) c');have h5:=h4.aH (Ps:=(parts p M).set 3 (sl (some b') (M.reason.xs.length+1) c' 3 1 (M.reason.xs.map vI++[vI x]))) (k:=0) (by simp[parts]);refine⟨h5.aB ?_,hl⟩;simp only[parts,aI,Fl.hp,Fl.v,List.map_append,List.map_cons,List.map_nil,List.length_append,List.length_singleton,List.set_cons_succ,List.set_cons_zero,Option.map_some]
theorem At.zy (h:At B w0 w p M F):St B w0 w (star (sl M.phase.a M.phase.xs.length M.phase.c 4 1 (M.phase.xs.map vB)) (star (stars ((parts p M).eraseIdx 4)) F)):=h.st.aX (k:=4) rfl
theorem At.SQ (h:At B w0 w p M F) (hi:0<M.phase.xs.length):∃ b,M.phase.a=some b:=by
 obtain⟨_,_,_,hn,_⟩:=h.zy.sat.aR
 cases e:M.phase.a with
 | none=>have:=(hn e).1;omega
 | some b=>exact⟨b,rfl⟩
theorem At.SS (h:At B w0 w p M F) {b i:Nat} (hb:M.phase.a=some b) {x:Bool} (hi:M.phase.xs[i]?=some x):w.cell? ⟨b,i,none⟩=some (vB x)∧w.frozen? ⟨b,i,none⟩=false:=by
 have h1:=h.zy;rw[hb] at h1;exact⟨by rw[h1.aW i (by rw[List.length_map];exact (List.getElem?_eq_some_iff.1 hi).1),List.getElem?_map,hi];rfl,h1.bZ i⟩
theorem At.aaI (h:At B w0 w p M F) {b:Nat} (hb:M.phase.a=some b):b≠p:=by
 have h1:=h.zy;rw[hb] at h1;have h2:St B w0 w (star (pt p 92 (aI M)) (star (sl (some b) M.phase.xs.length M.phase.c 4 1 (M.phase.xs.map vB)) (star (stars (((parts p M).eraseIdx 4).eraseIdx 0)) F))):=h1.aB (by rw[aZ (Ps:=(parts p M).eraseIdx 4) (k:=0) (P:=pt p 92 (aI M)) rfl];ac_rfl);exact (h2.sat.gW).symm
theorem At.Ur (h:At B w0 w p M F) {b i:Nat} (hb:M.phase.a=some b) (hi:i<M.phase.xs.length) (x:Bool):At B w0 (w.setCell ⟨b,i,none⟩ (vB x)) p (M.cZ ⟨M.phase.a,M.phase.c,M.phase.xs.set i x⟩) F:=by
 have h1:=h.zy;rw[hb] at h1;refine⟨((h1.fH i (vB x) (by simpa using hi)).aH (Ps:=parts p M) (k:=4) (by simp[parts])).aB ?_,h.bA⟩;simp only[parts,aI,Fl.hp,Fl.v,List.length_set,List.map_set,List.set_cons_succ,List.set_cons_zero,hb]
theorem At.Qk {b' n c':Nat} {x:Bool} (hl:M.last.xs=[]→M.last.a=none) (hn:M.phase.xs.length=n) (h:St B w0 w (star (sl (some b') (n+1) c' 4 1 (M.phase.xs.map vB++[vB x])) (star (stars ((parts p M).eraseIdx 4)) F))) :
  (w.cell? ⟨p,10,none⟩=some (.slice (M.phase.a.map fun b=>⟨b,0,none⟩) n M.phase.c)∧w.frozen? ⟨p,10,none⟩=false)∧At B w0 (w.setCell ⟨p,10,none⟩ (.slice (some ⟨b',0,none⟩) (n+1) c')) p (M.cZ ⟨some b',c',M.phase.xs++[x]⟩) F:=by
 subst hn;have h2:=h.aH (Ps:=parts p M) (k:=4) (by simp[parts]);have h3:=h2.aX (Ps:=(parts p M).set 4 _) (k:=0) (P:=pt p 92 (aI M)) rfl;refine⟨⟨h3.aG 10,h3.bU 10⟩,?_⟩;have h4:=h3.bM 10 (.slice (some ⟨b',0,none⟩) (M.phase.xs.length+1) c');have h5:=h4.aH (Ps:=(parts p M).set 4 (sl (some b') (M.phase.xs.length+1) c' 4 1 (M.phase.xs.map vB++[vB x]))) (k:=0) (by simp[parts]);refine⟨h5.aB ?_,hl⟩;simp only[parts,aI,Fl.hp,Fl.v,List.map_append,List.map_cons,List.map_nil,List.length_append,List.length_singleton,List.set_cons_succ,List.set_cons_zero,Option.map_some]
theorem At.zA (h:At B w0 w p M F):St B w0 w (star (sl M.occurs.a M.occurs.xs.length M.occurs.c 4 1 (M.occurs.xs.map vB)) (star (stars ((parts p M).eraseIdx 5)) F)):=h.st.aX (k:=5) rfl
theorem At.Ma (h:At B w0 w p M F) (hi:0<M.occurs.xs.length):∃ b,M.occurs.a=some b:=by
 obtain⟨_,_,_,hn,_⟩:=h.zA.sat.aR
 cases e:M.occurs.a with
 | none=>have:=(hn e).1;omega
 | some b=>exact⟨b,rfl⟩
theorem At.Mc (h:At B w0 w p M F) {b i:Nat} (hb:M.occurs.a=some b) {x:Bool} (hi:M.occurs.xs[i]?=some x):w.cell? ⟨b,i,none⟩=some (vB x)∧w.frozen? ⟨b,i,none⟩=false:=by
 have h1:=h.zA;rw[hb] at h1;exact⟨by rw[h1.aW i (by rw[List.length_map];exact (List.getElem?_eq_some_iff.1 hi).1),List.getElem?_map,hi];rfl,h1.bZ i⟩
theorem At.Ql (h:At B w0 w p M F) {b i:Nat} (hb:M.occurs.a=some b) (hi:i<M.occurs.xs.length) (x:Bool):At B w0 (w.setCell ⟨b,i,none⟩ (vB x)) p (M.dZ ⟨M.occurs.a,M.occurs.c,M.occurs.xs.set i x⟩) F:=by
 have h1:=h.zA;rw[hb] at h1;refine⟨((h1.fH i (vB x) (by simpa using hi)).aH (Ps:=parts p M) (k:=5) (by simp[parts])).aB ?_,h.bA⟩;simp only[parts,aI,Fl.hp,Fl.v,List.length_set,List.map_set,List.set_cons_succ,List.set_cons_zero,hb]
theorem At.Md {b' n c':Nat} {x:Bool} (hl:M.last.xs=[]→M.last.a=none) (hn:M.occurs.xs.length=n) (h:St B w0 w (star (sl (some b') (n+1) c' 4 1 (M.occurs.xs.map vB++[vB x])) (star (stars ((parts p M).eraseIdx 5)) F))) :
  (w.cell? ⟨p,11,none⟩=some (.slice (M.occurs.a.map fun b=>⟨b,0,none⟩) n M.occurs.c)∧w.frozen? ⟨p,11,none⟩=false)∧At B w0 (w.setCell ⟨p,11,none⟩ (.slice (some ⟨b',0,none⟩) (n+1) c')) p (M.dZ ⟨some b',c',M.occurs.xs++[x]⟩) F:=by
 subst hn;have h2:=h.aH (Ps:=parts p M) (k:=5) (by simp[parts]);have h3:=h2.aX (Ps:=(parts p M).set 5 _) (k:=0) (P:=pt p 92 (aI M)) rfl;refine⟨⟨h3.aG 11,h3.bU 11⟩,?_⟩;have h4:=h3.bM 11 (.slice (some ⟨b',0,none⟩) (M.occurs.xs.length+1) c');have h5:=h4.aH (Ps:=(parts p M).set 5 (sl (some b') (M.occurs.xs.length+1) c' 4 1 (M.occurs.xs.map vB++[vB x]))) (k:=0) (by simp[parts]);refine⟨h5.aB ?_,hl⟩;simp only[parts,aI,Fl.hp,Fl.v,List.map_append,List.map_cons,List.map_nil,List.length_append,List.length_singleton,List.set_cons_succ,List.set_cons_zero,Option.map_some]
theorem At.mP (h:At B w0 w p M F):St B w0 w (star (sl M.trail.a M.trail.xs.length M.trail.c 98 1 (M.trail.xs.map vL)) (star (stars ((parts p M).eraseIdx 6)) F)):=h.st.aX (k:=6) rfl
theorem At.Kr (h:At B w0 w p M F) (hi:0<M.trail.xs.length):∃ b,M.trail.a=some b:=by
 obtain⟨_,_,_,hn,_⟩:=h.mP.sat.aR
 cases e:M.trail.a with
 | none=>have:=(hn e).1;omega
 | some b=>exact⟨b,rfl⟩
theorem At.Dt (h:At B w0 w p M F) {b i:Nat} (hb:M.trail.a=some b) {x:Nat} (hi:M.trail.xs[i]?=some x):w.cell? ⟨b,i,none⟩=some (vL x)∧w.frozen? ⟨b,i,none⟩=false:=by
 have h1:=h.mP;rw[hb] at h1;exact⟨by rw[h1.aW i (by rw[List.length_map];exact (List.getElem?_eq_some_iff.1 hi).1),List.getElem?_map,hi];rfl,h1.bZ i⟩
theorem At.Bh (h:At B w0 w p M F) {n:Nat} (hn:n≤M.trail.xs.length):At B w0 (w.setCell ⟨p,12,none⟩ (.slice (M.trail.a.map fun b=>⟨b,0,none⟩) n M.trail.c)) p (M.kF ⟨M.trail.a,M.trail.c,M.trail.xs.take n⟩) F:=by
 have hf:=h.mP.sat.aR;have h0:=h.mP;have h1:St B w0 w (star (sl M.trail.a n M.trail.c 98 1 ((M.trail.xs.map vL).take (n*1))) (star (stars ((parts p M).eraseIdx 6)) F)):=⟨h0.below,h0.base,h0.sat.wU n M.trail.c (by omega) hn (Nat.le_refl _)⟩;have h2:=h1.aH (Ps:=parts p M) (k:=6) (by simp[parts]);have h3:=h2.aX (Ps:=(parts p M).set 6 _) (k:=0) (P:=pt p 92 (aI M)) rfl;have h4:=h3.bM 12 (.slice (M.trail.a.map fun b=>⟨b,0,none⟩) n M.trail.c);have h5:=h4.aH (Ps:=(parts p M).set 6 (sl M.trail.a n M.trail.c 98 1 ((M.trail.xs.map vL).take (n*1)))) (k:=0) (by simp[parts]);refine⟨h5.aB ?_,h.bA⟩;have hl:(M.trail.xs.take n).length=n:=by rw[List.length_take];omega
 simp only[parts,aI,Fl.hp,Fl.v,List.map_take,Nat.mul_one,List.set_cons_succ,List.set_cons_zero,hl]
theorem At.D7 {b' n c':Nat} {x:Nat} (hl:M.last.xs=[]→M.last.a=none) (hn:M.trail.xs.length=n) (h:St B w0 w (star (sl (some b') (n+1) c' 98 1 (M.trail.xs.map vL++[vL x])) (star (stars ((parts p M).eraseIdx 6)) F))) :
  (w.cell? ⟨p,12,none⟩=some (.slice (M.trail.a.map fun b=>⟨b,0,none⟩) n M.trail.c)∧w.frozen? ⟨p,12,none⟩=false)∧At B w0 (w.setCell ⟨p,12,none⟩ (.slice (some ⟨b',0,none⟩) (n+1) c')) p (M.kF ⟨some b',c',M.trail.xs++[x]⟩) F:=by
 subst hn;have h2:=h.aH (Ps:=parts p M) (k:=6) (by simp[parts]);have h3:=h2.aX (Ps:=(parts p M).set 6 _) (k:=0) (P:=pt p 92 (aI M)) rfl;refine⟨⟨h3.aG 12,h3.bU 12⟩,?_⟩;have h4:=h3.bM 12 (.slice (some ⟨b',0,none⟩) (M.trail.xs.length+1) c');have h5:=h4.aH (Ps:=(parts p M).set 6 (sl (some b') (M.trail.xs.length+1) c' 98 1 (M.trail.xs.map vL++[vL x]))) (k:=0) (by simp[parts]);refine⟨h5.aB ?_,hl⟩;simp only[parts,aI,Fl.hp,Fl.v,List.map_append,List.map_cons,List.map_nil,List.length_append,List.length_singleton,List.set_cons_succ,List.set_cons_zero,Option.map_some]
theorem At.uG (h:At B w0 w p M F):St B w0 w (star (sl M.ends.a M.ends.xs.length M.ends.c 3 1 (M.ends.xs.map vN)) (star (stars ((parts p M).eraseIdx 7)) F)):=h.st.aX (k:=7) rfl
theorem At.adD (h:At B w0 w p M F) (hi:0<M.ends.xs.length):∃ b,M.ends.a=some b:=by
 obtain⟨_,_,_,hn,_⟩:=h.uG.sat.aR
 cases e:M.ends.a with
 | none=>have:=(hn e).1;omega
 | some b=>exact⟨b,rfl⟩
theorem At.adE (h:At B w0 w p M F) {b i:Nat} (hb:M.ends.a=some b) {x:Nat} (hi:M.ends.xs[i]?=some x):w.cell? ⟨b,i,none⟩=some (vN x)∧w.frozen? ⟨b,i,none⟩=false:=by
 have h1:=h.uG;rw[hb] at h1;exact⟨by rw[h1.aW i (by rw[List.length_map];exact (List.getElem?_eq_some_iff.1 hi).1),List.getElem?_map,hi];rfl,h1.bZ i⟩
theorem At.D8 (h:At B w0 w p M F) {n:Nat} (hn:n≤M.ends.xs.length):At B w0 (w.setCell ⟨p,13,none⟩ (.slice (M.ends.a.map fun b=>⟨b,0,none⟩) n M.ends.c)) p (M.uo ⟨M.ends.a,M.ends.c,M.ends.xs.take n⟩) F:=by
 have hf:=h.uG.sat.aR;have h0:=h.uG;have h1:St B w0 w (star (sl M.ends.a n M.ends.c 3 1 ((M.ends.xs.map vN).take (n*1))) (star (stars ((parts p M).eraseIdx 7)) F)):=⟨h0.below,h0.base,h0.sat.wU n M.ends.c (by omega) hn (Nat.le_refl _)⟩;have h2:=h1.aH (Ps:=parts p M) (k:=7) (by simp[parts]);have h3:=h2.aX (Ps:=(parts p M).set 7 _) (k:=0) (P:=pt p 92 (aI M)) rfl;have h4:=h3.bM 13 (.slice (M.ends.a.map fun b=>⟨b,0,none⟩) n M.ends.c);have h5:=h4.aH (Ps:=(parts p M).set 7 (sl M.ends.a n M.ends.c 3 1 ((M.ends.xs.map vN).take (n*1)))) (k:=0) (by simp[parts]);refine⟨h5.aB ?_,h.bA⟩;have hl:(M.ends.xs.take n).length=n:=by rw[List.length_take];omega
 simp only[parts,aI,Fl.hp,Fl.v,List.map_take,Nat.mul_one,List.set_cons_succ,List.set_cons_zero,hl]
theorem At.Bj {b' n c':Nat} {x:Nat} (hl:M.last.xs=[]→M.last.a=none) (hn:M.ends.xs.length=n) (h:St B w0 w (star (sl (some b') (n+1) c' 3 1 (M.ends.xs.map vN++[vN x])) (star (stars ((parts p M).eraseIdx 7)) F))) :
  (w.cell? ⟨p,13,none⟩=some (.slice (M.ends.a.map fun b=>⟨b,0,none⟩) n M.ends.c)∧w.frozen? ⟨p,13,none⟩=false)∧At B w0 (w.setCell ⟨p,13,none⟩ (.slice (some ⟨b',0,none⟩) (n+1) c')) p (M.uo ⟨some b',c',M.ends.xs++[x]⟩) F:=by
 subst hn;have h2:=h.aH (Ps:=parts p M) (k:=7) (by simp[parts]);have h3:=h2.aX (Ps:=(parts p M).set 7 _) (k:=0) (P:=pt p 92 (aI M)) rfl;refine⟨⟨h3.aG 13,h3.bU 13⟩,?_⟩;have h4:=h3.bM 13 (.slice (some ⟨b',0,none⟩) (M.ends.xs.length+1) c');have h5:=h4.aH (Ps:=(parts p M).set 7 (sl (some b') (M.ends.xs.length+1) c' 3 1 (M.ends.xs.map vN++[vN x]))) (k:=0) (by simp[parts]);refine⟨h5.aB ?_,hl⟩;simp only[parts,aI,Fl.hp,Fl.v,List.map_append,List.map_cons,List.map_nil,List.length_append,List.length_singleton,List.set_cons_succ,List.set_cons_zero,Option.map_some]
theorem At.Me (h:At B w0 w p M F):St B w0 w (star (sl M.hl.a M.hl.xs.length M.hl.c 3 1 (M.hl.xs.map vN)) (star (stars ((parts p M).eraseIdx 8)) F)):=h.st.aX (k:=8) rfl
theorem At.Bl (h:At B w0 w p M F) (hi:0<M.hl.xs.length):∃ b,M.hl.a=some b:=by
 obtain⟨_,_,_,hn,_⟩:=h.Me.sat.aR
 cases e:M.hl.a with
 | none=>have:=(hn e).1;omega
 | some b=>exact⟨b,rfl⟩
theorem At.wW (h:At B w0 w p M F) {b i:Nat} (hb:M.hl.a=some b) {x:Nat} (hi:M.hl.xs[i]?=some x):w.cell? ⟨b,i,none⟩=some (vN x)∧w.frozen? ⟨b,i,none⟩=false:=by
 have h1:=h.Me;rw[hb] at h1;exact⟨by rw[h1.aW i (by rw[List.length_map];exact (List.getElem?_eq_some_iff.1 hi).1),List.getElem?_map,hi];rfl,h1.bZ i⟩
theorem At.agc (h:At B w0 w p M F) {b:Nat} (hb:M.hl.a=some b):b≠p:=by
 have h1:=h.Me;rw[hb] at h1;have h2:St B w0 w (star (pt p 92 (aI M)) (star (sl (some b) M.hl.xs.length M.hl.c 3 1 (M.hl.xs.map vN)) (star (stars (((parts p M).eraseIdx 8).eraseIdx 0)) F))):=h1.aB (by rw[aZ (Ps:=(parts p M).eraseIdx 8) (k:=0) (P:=pt p 92 (aI M)) rfl];ac_rfl);exact (h2.sat.gW).symm
theorem At.adF (h:At B w0 w p M F) {b i:Nat} (hb:M.hl.a=some b) (hi:i<M.hl.xs.length) (x:Nat):At B w0 (w.setCell ⟨b,i,none⟩ (vN x)) p (M.Bd ⟨M.hl.a,M.hl.c,M.hl.xs.set i x⟩) F:=by
 have h1:=h.Me;rw[hb] at h1;refine⟨((h1.fH i (vN x) (by simpa using hi)).aH (Ps:=parts p M) (k:=8) (by simp[parts])).aB ?_,h.bA⟩;simp only[parts,aI,Fl.hp,Fl.v,List.length_set,List.map_set,List.set_cons_succ,List.set_cons_zero,hb]
theorem At.adG (h:At B w0 w p M F) {n:Nat} (hn:n≤M.hl.xs.length):At B w0 (w.setCell ⟨p,15,none⟩ (.slice (M.hl.a.map fun b=>⟨b,0,none⟩) n M.hl.c)) p (M.Bd ⟨M.hl.a,M.hl.c,M.hl.xs.take n⟩) F:=by
 have hf:=h.Me.sat.aR;have h0:=h.Me;have h1:St B w0 w (star (sl M.hl.a n M.hl.c 3 1 ((M.hl.xs.map vN).take (n*1))) (star (stars ((parts p M).eraseIdx 8)) F)):=⟨h0.below,h0.base,h0.sat.wU n M.hl.c (by omega) hn (Nat.le_refl _)⟩;have h2:=h1.aH (Ps:=parts p M) (k:=8) (by simp[parts]);have h3:=h2.aX (Ps:=(parts p M).set 8 _) (k:=0) (P:=pt p 92 (aI M)) rfl;have h4:=h3.bM 15 (.slice (M.hl.a.map fun b=>⟨b,0,none⟩) n M.hl.c);have h5:=h4.aH (Ps:=(parts p M).set 8 (sl M.hl.a n M.hl.c 3 1 ((M.hl.xs.map vN).take (n*1)))) (k:=0) (by simp[parts]);refine⟨h5.aB ?_,h.bA⟩;have hl:(M.hl.xs.take n).length=n:=by rw[List.length_take];omega
 simp only[parts,aI,Fl.hp,Fl.v,List.map_take,Nat.mul_one,List.set_cons_succ,List.set_cons_zero,hl]
theorem At.aaJ {b' n c':Nat} {x:Nat} (hl:M.last.xs=[]→M.last.a=none) (hn:M.hl.xs.length=n) (h:St B w0 w (star (sl (some b') (n+1) c' 3 1 (M.hl.xs.map vN++[vN x])) (star (stars ((parts p M).eraseIdx 8)) F))) :
  (w.cell? ⟨p,15,none⟩=some (.slice (M.hl.a.map fun b=>⟨b,0,none⟩) n M.hl.c)∧w.frozen? ⟨p,15,none⟩=false)∧At B w0 (w.setCell ⟨p,15,none⟩ (.slice (some ⟨b',0,none⟩) (n+1) c')) p (M.Bd ⟨some b',c',M.hl.xs++[x]⟩) F:=by
 subst hn;have h2:=h.aH (Ps:=parts p M) (k:=8) (by simp[parts]);have h3:=h2.aX (Ps:=(parts p M).set 8 _) (k:=0) (P:=pt p 92 (aI M)) rfl;refine⟨⟨h3.aG 15,h3.bU 15⟩,?_⟩;have h4:=h3.bM 15 (.slice (some ⟨b',0,none⟩) (M.hl.xs.length+1) c');have h5:=h4.aH (Ps:=(parts p M).set 8 (sl (some b') (M.hl.xs.length+1) c' 3 1 (M.hl.xs.map vN++[vN x]))) (k:=0) (by simp[parts]);refine⟨h5.aB ?_,hl⟩;simp only[parts,aI,Fl.hp,Fl.v,List.map_append,List.map_cons,List.map_nil,List.length_append,List.length_singleton,List.set_cons_succ,List.set_cons_zero,Option.map_some]
theorem At.vK (h:At B w0 w p M F):St B w0 w (star (sl M.place.a M.place.xs.length M.place.c 3 1 (M.place.xs.map vN)) (star (stars ((parts p M).eraseIdx 9)) F)):=h.st.aX (k:=9) rfl
theorem At.Du (h:At B w0 w p M F) (hi:0<M.place.xs.length):∃ b,M.place.a=some b:=by
 obtain⟨_,_,_,hn,_⟩:=h.vK.sat.aR
 cases e:M.place.a with
 | none=>have:=(hn e).1;omega
 | some b=>exact⟨b,rfl⟩
theorem At.Dv (h:At B w0 w p M F) {b i:Nat} (hb:M.place.a=some b) {x:Nat} (hi:M.place.xs[i]?=some x):w.cell? ⟨b,i,none⟩=some (vN x)∧w.frozen? ⟨b,i,none⟩=false:=by
 have h1:=h.vK;rw[hb] at h1;exact⟨by rw[h1.aW i (by rw[List.length_map];exact (List.getElem?_eq_some_iff.1 hi).1),List.getElem?_map,hi];rfl,h1.bZ i⟩
theorem At.Kt (h:At B w0 w p M F) {b:Nat} (hb:M.place.a=some b):b≠p:=by
 have h1:=h.vK;rw[hb] at h1;have h2:St B w0 w (star (pt p 92 (aI M)) (star (sl (some b) M.place.xs.length M.place.c 3 1 (M.place.xs.map vN)) (star (stars (((parts p M).eraseIdx 9).eraseIdx 0)) F))):=h1.aB (by rw[aZ (Ps:=(parts p M).eraseIdx 9) (k:=0) (P:=pt p 92 (aI M)) rfl];ac_rfl);exact (h2.sat.gW).symm
theorem At.aaK (h:At B w0 w p M F) {b:Nat} (hb:M.place.a=some b):b<w.heap.size∧B≤b:=by
 have:=h.vK.sat.aR.2.2.2.2 b hb;exact⟨this.2,this.1⟩
theorem At.Bn (h:At B w0 w p M F) {b i:Nat} (hb:M.place.a=some b) (hi:i<M.place.xs.length) (x:Nat):At B w0 (w.setCell ⟨b,i,none⟩ (vN x)) p (M.kG ⟨M.place.a,M.place.c,M.place.xs.set i x⟩) F:=by
 have h1:=h.vK;rw[hb] at h1;refine⟨((h1.fH i (vN x) (by simpa using hi)).aH (Ps:=parts p M) (k:=9) (by simp[parts])).aB ?_,h.bA⟩;simp only[parts,aI,Fl.hp,Fl.v,List.length_set,List.map_set,List.set_cons_succ,List.set_cons_zero,hb]
theorem At.SV (h:At B w0 w p M F):St B w0 w (star (sl M.met.a M.met.xs.length M.met.c 137 1 (M.met.xs.map v64)) (star (stars ((parts p M).eraseIdx 10)) F)):=h.st.aX (k:=10) rfl
theorem At.Ww (h:At B w0 w p M F) (hi:0<M.met.xs.length):∃ b,M.met.a=some b:=by
 obtain⟨_,_,_,hn,_⟩:=h.SV.sat.aR
 cases e:M.met.a with
 | none=>have:=(hn e).1;omega
 | some b=>exact⟨b,rfl⟩
theorem At.SX (h:At B w0 w p M F) {b i:Nat} (hb:M.met.a=some b) {x:Nat} (hi:M.met.xs[i]?=some x):w.cell? ⟨b,i,none⟩=some (v64 x)∧w.frozen? ⟨b,i,none⟩=false:=by
 have h1:=h.SV;rw[hb] at h1;exact⟨by rw[h1.aW i (by rw[List.length_map];exact (List.getElem?_eq_some_iff.1 hi).1),List.getElem?_map,hi];rfl,h1.bZ i⟩
theorem At.acD (h:At B w0 w p M F) {b:Nat} (hb:M.met.a=some b):b≠p:=by
 have h1:=h.SV;rw[hb] at h1;have h2:St B w0 w (star (pt p 92 (aI M)) (star (sl (some b) M.met.xs.length M.met.c 137 1 (M.met.xs.map v64)) (star (stars (((parts p M).eraseIdx 10).eraseIdx 0)) F))):=h1.aB (by rw[aZ (Ps:=(parts p M).eraseIdx 10) (k:=0) (P:=pt p 92 (aI M)) rfl];ac_rfl);exact (h2.sat.gW).symm
theorem At.SY (h:At B w0 w p M F) {b i:Nat} (hb:M.met.a=some b) (hi:i<M.met.xs.length) (x:Nat):At B w0 (w.setCell ⟨b,i,none⟩ (v64 x)) p (M.jw ⟨M.met.a,M.met.c,M.met.xs.set i x⟩) F:=by
 have h1:=h.SV;rw[hb] at h1;refine⟨((h1.fH i (v64 x) (by simpa using hi)).aH (Ps:=parts p M) (k:=10) (by simp[parts])).aB ?_,h.bA⟩;simp only[parts,aI,Fl.hp,Fl.v,List.length_set,List.map_set,List.set_cons_succ,List.set_cons_zero,hb]
theorem At.Dw (h:At B w0 w p M F):St B w0 w (star (sl M.units.a M.units.xs.length M.units.c 3 1 (M.units.xs.map vI)) (star (stars ((parts p M).eraseIdx 11)) F)):=h.st.aX (k:=11) rfl
theorem At.S9 (h:At B w0 w p M F) (hi:0<M.units.xs.length):∃ b,M.units.a=some b:=by
 obtain⟨_,_,_,hn,_⟩:=h.Dw.sat.aR
 cases e:M.units.a with
 | none=>have:=(hn e).1;omega
 | some b=>exact⟨b,rfl⟩
theorem At.Ku (h:At B w0 w p M F) {b i:Nat} (hb:M.units.a=some b) {x:Int} (hi:M.units.xs[i]?=some x):w.cell? ⟨b,i,none⟩=some (vI x)∧w.frozen? ⟨b,i,none⟩=false:=by
 have h1:=h.Dw;rw[hb] at h1;exact⟨by rw[h1.aW i (by rw[List.length_map];exact (List.getElem?_eq_some_iff.1 hi).1),List.getElem?_map,hi];rfl,h1.bZ i⟩
theorem At.Us (h:At B w0 w p M F) {b i:Nat} (hb:M.units.a=some b) (hi:i<M.units.xs.length) (x:Int):At B w0 (w.setCell ⟨b,i,none⟩ (vI x)) p (M.Dm ⟨M.units.a,M.units.c,M.units.xs.set i x⟩) F:=by
 have h1:=h.Dw;rw[hb] at h1;refine⟨((h1.fH i (vI x) (by simpa using hi)).aH (Ps:=parts p M) (k:=11) (by simp[parts])).aB ?_,h.bA⟩;simp only[parts,aI,Fl.hp,Fl.v,List.length_set,List.map_set,List.set_cons_succ,List.set_cons_zero,hb]
theorem At.Qm {b' n c':Nat} {x:Int} (hl:M.last.xs=[]→M.last.a=none) (hn:M.units.xs.length=n) (h:St B w0 w (star (sl (some b') (n+1) c' 3 1 (M.units.xs.map vI++[vI x])) (star (stars ((parts p M).eraseIdx 11)) F))) :
  (w.cell? ⟨p,20,none⟩=some (.slice (M.units.a.map fun b=>⟨b,0,none⟩) n M.units.c)∧w.frozen? ⟨p,20,none⟩=false)∧At B w0 (w.setCell ⟨p,20,none⟩ (.slice (some ⟨b',0,none⟩) (n+1) c')) p (M.Dm ⟨some b',c',M.units.xs++[x]⟩) F:=by
 subst hn;have h2:=h.aH (Ps:=parts p M) (k:=11) (by simp[parts]);have h3:=h2.aX (Ps:=(parts p M).set 11 _) (k:=0) (P:=pt p 92 (aI M)) rfl;refine⟨⟨h3.aG 20,h3.bU 20⟩,?_⟩;have h4:=h3.bM 20 (.slice (some ⟨b',0,none⟩) (M.units.xs.length+1) c');have h5:=h4.aH (Ps:=(parts p M).set 11 (sl (some b') (M.units.xs.length+1) c' 3 1 (M.units.xs.map vI++[vI x]))) (k:=0) (by simp[parts]);refine⟨h5.aB ?_,hl⟩;simp only[parts,aI,Fl.hp,Fl.v,List.map_append,List.map_cons,List.map_nil,List.length_append,List.length_singleton,List.set_cons_succ,List.set_cons_zero,Option.map_some]
theorem At.Kv (h:At B w0 w p M F):St B w0 w (star (sl M.model.a M.model.xs.length M.model.c 4 1 (M.model.xs.map vB)) (star (stars ((parts p M).eraseIdx 12)) F)):=h.st.aX (k:=12) rfl
theorem At.aaL (h:At B w0 w p M F) (hi:0<M.model.xs.length):∃ b,M.model.a=some b:=by
 obtain⟨_,_,_,hn,_⟩:=h.Kv.sat.aR
 cases e:M.model.a with
 | none=>have:=(hn e).1;omega
 | some b=>exact⟨b,rfl⟩
theorem At.Kw (h:At B w0 w p M F) {b i:Nat} (hb:M.model.a=some b) {x:Bool} (hi:M.model.xs[i]?=some x):w.cell? ⟨b,i,none⟩=some (vB x)∧w.frozen? ⟨b,i,none⟩=false:=by
 have h1:=h.Kv;rw[hb] at h1;exact⟨by rw[h1.aW i (by rw[List.length_map];exact (List.getElem?_eq_some_iff.1 hi).1),List.getElem?_map,hi];rfl,h1.bZ i⟩
theorem At.IU (h:At B w0 w p M F) {b i:Nat} (hb:M.model.a=some b) (hi:i<M.model.xs.length) (x:Bool):At B w0 (w.setCell ⟨b,i,none⟩ (vB x)) p (M.kH ⟨M.model.a,M.model.c,M.model.xs.set i x⟩) F:=by
 have h1:=h.Kv;rw[hb] at h1;refine⟨((h1.fH i (vB x) (by simpa using hi)).aH (Ps:=parts p M) (k:=12) (by simp[parts])).aB ?_,h.bA⟩;simp only[parts,aI,Fl.hp,Fl.v,List.length_set,List.map_set,List.set_cons_succ,List.set_cons_zero,hb]
theorem At.IV {a:Option Nat} {n c:Nat} {xs:List Bool} (h:At B w0 w p M (star (sl a n c 4 1 (xs.map vB)) F)) (hn:xs.length=n):At B w0 (w.setCell ⟨p,21,none⟩ (.slice (a.map fun b=>⟨b,0,none⟩) n c)) p (M.kH ⟨a,c,xs⟩) F:=by
 subst hn;have h1:=h.qJ.bM 21 (.slice (a.map fun b=>⟨b,0,none⟩) xs.length c);have h2:=h1.aH (Ps:=parts p M) (k:=0) (by simp[parts]);have h3:=h2.aX (Ps:=(parts p M).set 0 _) (k:=12) (P:=M.model.hp 4 vB) rfl;have h4:St B w0 _ (star (sl a xs.length c 4 1 (xs.map vB)) (star (stars (((parts p M).set 0 (pt p 92 ((aI M).set 21 (.slice (a.map fun b=>⟨b,0,none⟩) xs.length c)))).eraseIdx 12)) F)):=h3.wH.aB (by ac_rfl);have h5:=h4.aH (Ps:=(parts p M).set 0 (pt p 92 ((aI M).set 21 (.slice (a.map fun b=>⟨b,0,none⟩) xs.length c)))) (k:=12) (by simp[parts]);exact⟨h5.aB rfl,h.bA⟩
theorem At.Wx (h:At B w0 w p M F):St B w0 w (star (sl M.core.a M.core.xs.length M.core.c 3 1 (M.core.xs.map vI)) (star (stars ((parts p M).eraseIdx 13)) F)):=h.st.aX (k:=13) rfl
theorem At.Wy {a:Option Nat} {n c:Nat} {xs:List Int} (h:At B w0 w p M (star (sl a n c 3 1 (xs.map vI)) F)) (hn:xs.length=n):At B w0 (w.setCell ⟨p,22,none⟩ (.slice (a.map fun b=>⟨b,0,none⟩) n c)) p (M.ql ⟨a,c,xs⟩) F:=by
 subst hn;have h1:=h.qJ.bM 22 (.slice (a.map fun b=>⟨b,0,none⟩) xs.length c);have h2:=h1.aH (Ps:=parts p M) (k:=0) (by simp[parts]);have h3:=h2.aX (Ps:=(parts p M).set 0 _) (k:=13) (P:=M.core.hp 3 vI) rfl;have h4:St B w0 _ (star (sl a xs.length c 3 1 (xs.map vI)) (star (stars (((parts p M).set 0 (pt p 92 ((aI M).set 22 (.slice (a.map fun b=>⟨b,0,none⟩) xs.length c)))).eraseIdx 13)) F)):=h3.wH.aB (by ac_rfl);have h5:=h4.aH (Ps:=(parts p M).set 0 (pt p 92 ((aI M).set 22 (.slice (a.map fun b=>⟨b,0,none⟩) xs.length c)))) (k:=13) (by simp[parts]);exact⟨h5.aB rfl,h.bA⟩
theorem At.Ut {b' n c':Nat} {x:Int} (hl:M.last.xs=[]→M.last.a=none) (hn:M.core.xs.length=n) (h:St B w0 w (star (sl (some b') (n+1) c' 3 1 (M.core.xs.map vI++[vI x])) (star (stars ((parts p M).eraseIdx 13)) F))) :
  (w.cell? ⟨p,22,none⟩=some (.slice (M.core.a.map fun b=>⟨b,0,none⟩) n M.core.c)∧w.frozen? ⟨p,22,none⟩=false)∧At B w0 (w.setCell ⟨p,22,none⟩ (.slice (some ⟨b',0,none⟩) (n+1) c')) p (M.ql ⟨some b',c',M.core.xs++[x]⟩) F:=by
 subst hn;have h2:=h.aH (Ps:=parts p M) (k:=13) (by simp[parts]);have h3:=h2.aX (Ps:=(parts p M).set 13 _) (k:=0) (P:=pt p 92 (aI M)) rfl;refine⟨⟨h3.aG 22,h3.bU 22⟩,?_⟩;have h4:=h3.bM 22 (.slice (some ⟨b',0,none⟩) (M.core.xs.length+1) c');have h5:=h4.aH (Ps:=(parts p M).set 13 (sl (some b') (M.core.xs.length+1) c' 3 1 (M.core.xs.map vI++[vI x]))) (k:=0) (by simp[parts]);refine⟨h5.aB ?_,hl⟩;simp only[parts,aI,Fl.hp,Fl.v,List.map_append,List.map_cons,List.map_nil,List.length_append,List.length_singleton,List.set_cons_succ,List.set_cons_zero,Option.map_some]
theorem At.Qn (h:At B w0 w p M F):St B w0 w (star (sl M.last.a M.last.xs.length M.last.c 3 1 (M.last.xs.map vI)) (star (stars ((parts p M).eraseIdx 14)) F)):=h.st.aX (k:=14) rfl
theorem At.Wz (h:At B w0 w p M F) (hi:0<M.last.xs.length):∃ b,M.last.a=some b:=by
 obtain⟨_,_,_,hn,_⟩:=h.Qn.sat.aR
 cases e:M.last.a with
 | none=>have:=(hn e).1;omega
 | some b=>exact⟨b,rfl⟩
theorem At.zB {a:Option Nat} {n c:Nat} {xs:List Int} (h:At B w0 w p M (star (sl a n c 3 1 (xs.map vI)) F)) (hn:xs.length=n) (hz:xs=[]→a=none):At B w0 (w.setCell ⟨p,23,none⟩ (.slice (a.map fun b=>⟨b,0,none⟩) n c)) p (M.DY ⟨a,c,xs⟩) F:=by
 subst hn;have h1:=h.qJ.bM 23 (.slice (a.map fun b=>⟨b,0,none⟩) xs.length c);have h2:=h1.aH (Ps:=parts p M) (k:=0) (by simp[parts]);have h3:=h2.aX (Ps:=(parts p M).set 0 _) (k:=14) (P:=M.last.hp 3 vI) rfl;have h4:St B w0 _ (star (sl a xs.length c 3 1 (xs.map vI)) (star (stars (((parts p M).set 0 (pt p 92 ((aI M).set 23 (.slice (a.map fun b=>⟨b,0,none⟩) xs.length c)))).eraseIdx 14)) F)):=h3.wH.aB (by ac_rfl);have h5:=h4.aH (Ps:=(parts p M).set 0 (pt p 92 ((aI M).set 23 (.slice (a.map fun b=>⟨b,0,none⟩) xs.length c)))) (k:=14) (by simp[parts]);exact⟨h5.aB rfl,hz⟩
theorem At.Uu {b' n c':Nat} {x:Int} (_hl:M.last.xs=[]→M.last.a=none) (hn:M.last.xs.length=n) (h:St B w0 w (star (sl (some b') (n+1) c' 3 1 (M.last.xs.map vI++[vI x])) (star (stars ((parts p M).eraseIdx 14)) F))) :
  (w.cell? ⟨p,23,none⟩=some (.slice (M.last.a.map fun b=>⟨b,0,none⟩) n M.last.c)∧w.frozen? ⟨p,23,none⟩=false)∧At B w0 (w.setCell ⟨p,23,none⟩ (.slice (some ⟨b',0,none⟩) (n+1) c')) p (M.DY ⟨some b',c',M.last.xs++[x]⟩) F:=by
 subst hn;have h2:=h.aH (Ps:=parts p M) (k:=14) (by simp[parts]);have h3:=h2.aX (Ps:=(parts p M).set 14 _) (k:=0) (P:=pt p 92 (aI M)) rfl;refine⟨⟨h3.aG 23,h3.bU 23⟩,?_⟩;have h4:=h3.bM 23 (.slice (some ⟨b',0,none⟩) (M.last.xs.length+1) c');have h5:=h4.aH (Ps:=(parts p M).set 14 (sl (some b') (M.last.xs.length+1) c' 3 1 (M.last.xs.map vI++[vI x]))) (k:=0) (by simp[parts]);refine⟨h5.aB ?_,fun e=>absurd e (by simp)⟩;simp only[parts,aI,Fl.hp,Fl.v,List.map_append,List.map_cons,List.map_nil,List.length_append,List.length_singleton,List.set_cons_succ,List.set_cons_zero,Option.map_some]
end
end Go.Proofs.YthbbmdnfkkffjaaGreat

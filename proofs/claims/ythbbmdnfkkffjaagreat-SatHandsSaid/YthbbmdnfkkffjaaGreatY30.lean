/-
  Parts of the proof, joined by program: Shelf, Iter, Iter2, Help, Sort, Sort2, Clone.
-/
import Derived.Test.YthbbmdnfkkffjaaGreatY02
import Derived.Test.YthbbmdnfkkffjaaGreatY20
import Derived.Test.YthbbmdnfkkffjaaGreatY16
import Derived.Test.YthbbmdnfkkffjaaGreatY01
import Derived.Shelf.Sort.Plain
import Derived.Ground.Names2Prog
import Derived.Shelf.Slices.Clone
import Derived.Shelf.Slices.CompactI
import Derived.Shelf.Slices.Cells
import Derived.Shelf.Slices.In.SortNone
import Derived.Shelf.SlIterI.Nil
import Derived.Shelf.SlGeneric
import Derived.Ground.GgzProg
import Derived.Test.YthbbmdnfkkffjaaGreatProg
import Derived.RangeFuncBox
import Derived.RangeFuncLeaves
import Derived.Shelf.Abstract
import Derived.WalkKit
import Derived.OwnWalkIn
import Derived.TacticsInMore
import Derived.LoopNIn
import Derived.LoopIn
import Derived.Maps.AppendAt
import Derived.Test.YthbbmdnfkkffjaaGreatRows
import Derived.WalkSpells
import Derived.WalkLawsBesides
import Derived.Deep.LoopGhost
import Derived.Deep.QuietTactic
import Derived.BigQuiet
import Derived.Lib.Hide
import Derived.Lib.RowBridge
import Derived.CallsIn
set_option maxHeartbeats 8000000
set_option maxRecDepth 100000
namespace Go.Proofs
open Go.Shelf
def Tryz.Nu:Go.Shelf.Ren:=⟨fun | 189=>119 | 125=>125 | 257=>124 | 128=>136 | 129=>137 | 294=>127 | 295=>128 | 296=>129 | 297=>130 | 298=>131 | 299=>132 | 216=>133 | 300=>134 | 301=>135 | 328=>138 | 329=>139 | 330=>140 | 331=>141 | 332=>142 | 215=>143 | 343=>144 | n=>n,fun | 28=>27 | 3=>3 | 46=>119 | 0=>0 | 51=>97 | 53=>137 | 4=>4 | 183=>159 | 182=>158 | 131=>103 | 5=>5 | 9=>9 | 218=>166 | 222=>169 | 228=>171 | 229=>172 | n=>n,fun | n=>n⟩
theorem Tryz.TM:Go.Proofs.Lays.n189 Tryz.prog Tryz.Nu:={
 mixed:=by kernel_rfl
 f125:=Tryz.func125.trans (congrArg some (by kernel_rfl))
 f128:=Tryz.func136.trans (congrArg some (by kernel_rfl))
 f129:=Tryz.func137.trans (congrArg some (by kernel_rfl))
 f189:=Tryz.func119.trans (congrArg some (by kernel_rfl))
 f215:=Tryz.func143.trans (congrArg some (by kernel_rfl))
 f216:=Tryz.func133.trans (congrArg some (by kernel_rfl))
 f257:=Tryz.func124.trans (congrArg some (by kernel_rfl))
 f294:=Tryz.func127.trans (congrArg some (by kernel_rfl))
 f295:=Tryz.func128.trans (congrArg some (by kernel_rfl))
 f296:=Tryz.func129.trans (congrArg some (by kernel_rfl))
 f297:=Tryz.func130.trans (congrArg some (by kernel_rfl))
 f298:=Tryz.func131.trans (congrArg some (by kernel_rfl))
 f299:=Tryz.func132.trans (congrArg some (by kernel_rfl))
 f300:=Tryz.func134.trans (congrArg some (by kernel_rfl))
 f301:=Tryz.func135.trans (congrArg some (by kernel_rfl))
 f328:=Tryz.func138.trans (congrArg some (by kernel_rfl))
 f329:=Tryz.func139.trans (congrArg some (by kernel_rfl))
 f330:=Tryz.func140.trans (congrArg some (by kernel_rfl))
 f331:=Tryz.func141.trans (congrArg some (by kernel_rfl))
 f332:=Tryz.func142.trans (congrArg some (by kernel_rfl))
 f343:=Tryz.func144.trans (congrArg some (by kernel_rfl))
 t0:=Tryz.underlying0
 a0:=Tryz.isAgg0
 z0:=Tryz.sizeOf0
 v0:=Tryz.zeroValue0
 t3:=Tryz.underlying3
 a3:=Tryz.isAgg3
 z3:=Tryz.sizeOf3
 v3:=Tryz.zeroValue3
 t4:=Tryz.underlying4
 a4:=Tryz.isAgg4
 z4:=Tryz.sizeOf4
 v4:=Tryz.zeroValue4
 t5:=Tryz.underlying5
 a5:=Tryz.isAgg5
 z5:=Tryz.sizeOf5
 v5:=Tryz.zeroValue5
 t9:=Tryz.underlying9
 a9:=Tryz.isAgg9
 z9:=Tryz.sizeOf9
 v9:=Tryz.zeroValue9
 t28:=Tryz.underlying27
 a28:=Tryz.isAgg27
 z28:=Tryz.sizeOf27
 v28:=Tryz.zeroValue27
 t46:=Tryz.underlying119
 a46:=Tryz.isAgg119
 z46:=Tryz.sizeOf119
 v46:=Tryz.zeroValue119
 t51:=Tryz.underlying97
 a51:=Tryz.isAgg97
 z51:=Tryz.sizeOf97
 v51:=Tryz.zeroValue97
 t53:=Tryz.underlying137
 a53:=Tryz.isAgg137
 z53:=Tryz.sizeOf137
 v53:=Tryz.zeroValue137
 t131:=Tryz.underlying103
 a131:=Tryz.isAgg103
 z131:=Tryz.sizeOf103
 v131:=Tryz.zeroValue103
 t182:=Tryz.underlying158
 a182:=Tryz.isAgg158
 z182:=Tryz.sizeOf158
 v182:=Tryz.zeroValue158
 t183:=Tryz.underlying159
 a183:=Tryz.isAgg159
 z183:=Tryz.sizeOf159
 v183:=Tryz.zeroValue159
 t218:=Tryz.underlying166
 a218:=Tryz.isAgg166
 z218:=Tryz.sizeOf166
 v218:=Tryz.zeroValue166
 t222:=Tryz.underlying169
 a222:=Tryz.isAgg169
 z222:=Tryz.sizeOf169
 v222:=Tryz.zeroValue169
 t228:=Tryz.underlying171
 a228:=Tryz.isAgg171
 z228:=Tryz.sizeOf171
 v228:=Tryz.zeroValue171
 t229:=Tryz.underlying172
 a229:=Tryz.isAgg172
 z229:=Tryz.sizeOf172
 v229:=Tryz.zeroValue172 }
open Go.Sort Go.RowKit in
theorem Tryz.slices_Sort_int (blk off cap:Nat) (zs:List Int) (w:World) (hH:Holds (Value.int .i64) w blk off zs.toArray) (hblk:blk<w.heap.size) (hsz:zs.length<4611686018427387904) :
  Calls Tryz.prog 119 #[.slice (some ⟨blk,off,none⟩) zs.length cap] w fun e w' =>
   e=.returned (.tuple #[])∧∃ n os,w'=grow (putRow (Value.int .i64) (Sort.ahead w n) blk off (zs.mergeSort fun x y=>decide (x≤y)).toArray) os:=Any.slices_Sort_int Tryz.TM blk off cap zs w hH hblk hsz
def Tryz.Ip:Go.Shelf.Ren:=⟨fun | 15=>66 | n=>n,fun | 22=>27 | 3=>3 | 4=>4 | n=>n,fun | n=>n⟩
theorem Tryz.BK:Go.Proofs.Lays2.n15 Tryz.prog Tryz.Ip:={
 mixed:=by kernel_rfl
 f15:=Tryz.func66.trans (congrArg some (by kernel_rfl))
 t3:=Tryz.underlying3
 a3:=Tryz.isAgg3
 z3:=Tryz.sizeOf3
 v3:=Tryz.zeroValue3
 t4:=Tryz.underlying4
 a4:=Tryz.isAgg4
 z4:=Tryz.sizeOf4
 v4:=Tryz.zeroValue4
 t22:=Tryz.underlying27
 a22:=Tryz.isAgg27
 z22:=Tryz.sizeOf27
 v22:=Tryz.zeroValue27
 i3:=by kernel_rfl }
open Go.RowKit Go.Lib in
theorem Tryz.slices_Clone_int (b off n c:Nat) (zs:List Int) (w:World) (hz:n≤zs.length) (hbig:n*8≤140737488355328) (hc:∀ j,j<zs.length→w.cell? ⟨b,off+j,none⟩=some (.int .i64 (zs.getD j 0))) :
  Calls Tryz.prog 66 #[.slice (some ⟨b,off,none⟩) n c] w fun e w'=>∃ v',e=.returned v'∧w'.ownsRow w.heap.size 3 1 v' n ((zs.take n).map (Value.int .i64))∧v'≠.slice none 0 0∧Below w.heap.size w w':=Any.slices_Clone_int Tryz.BK b off n c zs w hz hbig hc
open Go.RowKit Go.Lib in
theorem Tryz.slices_Clone_int_nil (n c:Nat) (w:World) :
  Calls Tryz.prog 66 #[.slice none n c] w fun e w'=>e=.returned (.slice none 0 0)∧w'=w:=Any.slices_Clone_int_nil Tryz.BK n c w
open Go.RowKit Go.Lib in
theorem Tryz.slices_Clone_int_zero (a:Addr) (c:Nat) (w:World) :
  Calls Tryz.prog 66 #[.slice (some a) 0 c] w fun e w'=>∃ v',e=.returned v'∧w'.ownsRow w.heap.size 3 1 v' 0 []∧v'≠.slice none 0 0∧Below w.heap.size w w':=Any.slices_Clone_int_zero Tryz.BK a c w
def Tryz.Iq:Go.Shelf.Ren:=⟨fun | 20=>121 | n=>n,fun | 22=>27 | 3=>3 | 4=>4 | 0=>0 | n=>n,fun | n=>n⟩
theorem Tryz.JE:Go.Proofs.Lays2.n20 Tryz.prog Tryz.Iq:={
 mixed:=by kernel_rfl
 f20:=Tryz.func121.trans (congrArg some (by kernel_rfl))
 t0:=Tryz.underlying0
 a0:=Tryz.isAgg0
 z0:=Tryz.sizeOf0
 v0:=Tryz.zeroValue0
 t3:=Tryz.underlying3
 a3:=Tryz.isAgg3
 z3:=Tryz.sizeOf3
 v3:=Tryz.zeroValue3
 t4:=Tryz.underlying4
 a4:=Tryz.isAgg4
 z4:=Tryz.sizeOf4
 v4:=Tryz.zeroValue4
 t22:=Tryz.underlying27
 a22:=Tryz.isAgg27
 z22:=Tryz.sizeOf27
 v22:=Tryz.zeroValue27
 i3:=by kernel_rfl }
open Go.RowKit Go.Lib Go.Sort in
open Go.RowKit Go.Lib Go.Sort in
theorem Tryz.slices_Compact_int (blk off cap:Nat) (zs:List Int) (w:World) (hH:Holds (Value.int .i64) w blk off zs.toArray) (hsz:zs.length≤9223372036854775807) (hcap:zs.length≤cap) :
  Calls Tryz.prog 121 #[.slice (some ⟨blk,off,none⟩) zs.length cap] w fun e w'=>e=.returned (.slice (some ⟨blk,off,none⟩) (Lib.compact zs).length cap)∧∃ q,w'=putRow (Value.int .i64) (Sort.ahead w q) blk off (Lib.compact zs++List.replicate (zs.length-(Lib.compact zs).length) 0).toArray:=Any.slices_Compact_int Tryz.JE blk off cap zs w hH hsz hcap
open Go.RowKit Go.Lib Go.Sort in
theorem Tryz.slices_Compact_int_empty (a:Option Addr) (cap:Nat) (w:World) :
  Calls Tryz.prog 121 #[.slice a 0 cap] w fun e w'=>e=.returned (.slice a 0 cap)∧w'=w:=Any.slices_Compact_int_empty Tryz.JE a cap w
open Go.RowKit Go.Lib Go.Sort in
open Go.RowKit Go.Sort in
theorem Tryz.slices_Sort_int_none (p:Option Addr) (cap:Nat) (w:World) :
  Calls Tryz.prog 119 #[.slice p 0 cap] w fun e w'=>e=.returned (.tuple #[])∧w'=w:=Any.slices_Sort_int_none Tryz.TM p cap w
def Tryz.JF:Go.Shelf.Ren:=⟨fun | 7=>113 | 10=>120 | n=>n,fun | 23=>102 | 26=>3 | 3=>3 | 28=>149 | 0=>0 | 27=>148 | 33=>35 | 4=>4 | n=>n,fun | n=>n⟩
theorem Tryz.ac8:Go.Proofs.SlLaysZI.n7 Tryz.prog Tryz.JF:={
 mixed:=by kernel_rfl
 f7:=⟨Tryz.f113.name,by decide,Tryz.func113.trans (congrArg some (by kernel_rfl))⟩
 f10:=⟨Tryz.f120.name,by decide,Tryz.func120.trans (congrArg some (by kernel_rfl))⟩
 t0:=Tryz.underlying0
 a0:=Tryz.isAgg0
 z0:=Tryz.sizeOf0
 v0:=Tryz.zeroValue0
 t4:=Tryz.underlying4
 a4:=Tryz.isAgg4
 z4:=Tryz.sizeOf4
 v4:=Tryz.zeroValue4
 t23:=Tryz.underlying102
 a23:=Tryz.isAgg102
 z23:=Tryz.sizeOf102
 v23:=Tryz.zeroValue102
 t26:=Tryz.underlying3
 a26:=Tryz.isAgg3
 z26:=Tryz.sizeOf3
 v26:=Tryz.zeroValue3
 t27:=Tryz.underlying148
 a27:=Tryz.isAgg148
 z27:=Tryz.sizeOf148
 v27:=Tryz.zeroValue148
 t28:=Tryz.underlying149
 a28:=Tryz.isAgg149
 z28:=Tryz.sizeOf149
 v28:=Tryz.zeroValue149
 t33:=Tryz.underlying35
 a33:=Tryz.isAgg35
 z33:=Tryz.sizeOf35
 v33:=Tryz.zeroValue35 }
def Tryz.Cy:Go.Shelf.Ren:=⟨fun | 6=>112 | 8=>118 | 9=>119 | 11=>123 | 13=>125 | 12=>124 | 23=>136 | 24=>137 | 14=>127 | 15=>128 | 16=>129 | 17=>130 | 18=>131 | 19=>132 | 20=>133 | 21=>134 | 22=>135 | 25=>138 | 26=>139 | 27=>140 | 28=>141 | 29=>142 | 30=>143 | 31=>144 | n=>n,fun | 26=>3 | 28=>149 | 24=>27 | 0=>0 | 3=>3 | 37=>119 | 48=>97 | 50=>137 | 4=>4 | 40=>159 | 39=>158 | 45=>103 | 5=>5 | 9=>9 | 51=>166 | 55=>169 | 57=>171 | 58=>172 | 33=>35 | n=>n,fun | n=>n⟩
theorem Tryz.abM:Go.Proofs.SlLaysZI.n6 Tryz.prog Tryz.Cy:={
 mixed:=by kernel_rfl
 f6:=⟨Tryz.f112.name,by decide,Tryz.func112.trans (congrArg some (by kernel_rfl))⟩
 f8:=⟨Tryz.f118.name,by decide,Tryz.func118.trans (congrArg some (by kernel_rfl))⟩
 f11:=⟨Tryz.f123.name,by decide,Tryz.func123.trans (congrArg some (by kernel_rfl))⟩
 t0:=Tryz.underlying0
 a0:=Tryz.isAgg0
 z0:=Tryz.sizeOf0
 v0:=Tryz.zeroValue0
 t24:=Tryz.underlying27
 a24:=Tryz.isAgg27
 z24:=Tryz.sizeOf27
 v24:=Tryz.zeroValue27
 t26:=Tryz.underlying3
 a26:=Tryz.isAgg3
 z26:=Tryz.sizeOf3
 v26:=Tryz.zeroValue3
 t28:=Tryz.underlying149
 a28:=Tryz.isAgg149
 z28:=Tryz.sizeOf149
 v28:=Tryz.zeroValue149
 i26:=by kernel_rfl }
end Go.Proofs
namespace Go.Proofs.YthbbmdnfkkffjaaGreat
open Go.RowKit Go.Shelf
def upto {α:Type} (f:Nat→α) (k:Nat):List α:=(List.range k).map f
theorem JG {α:Type} (f:Nat→α) (k:Nat):upto f (k+1)=upto f k++[f k]:=by simp[upto,List.range_succ]
theorem Nv {α:Type} (f:Nat→α) (k:Nat):(upto f k).length=k:=by simp[upto]
theorem Y3 (zs:List Int):upto (fun j=>zs[j]?.getD 0) zs.length=zs:=by
 apply List.ext_getElem
 ·simp[upto]
 ·intro i h1 h2;simp[upto,h2]
theorem Vn (zs:List Int) {k:Nat} (hk:k≤zs.length):upto (fun j=>zs[j]?.getD 0) k=zs.take k:=by
 apply List.ext_getElem
 ·simp[upto,hk]
 ·intro i h1 h2;have:i<zs.length:=by simp[upto] at h1;omega
  simp[upto,this]
theorem Rs (F:Fence) (n:Nat) (h7:F.fn 126) (hro:F.round=none) (hn:1≤n) (l Bs n₀ b off len cap:Nat) (zs:List Int) (Rt:len*8≤140737488351232) (hb:b<n₀) (J Jx:List Int→World→Prop)
  (hY:∀ pre x W,J pre W→pre.length<len→YieldAt F (n-1) Tryz.prog l #[.int .i64 x] W fun e W' =>
   (e=.returned (.bool true)∧J (pre++[x]) W'∧Below n₀ W W')∨(e=.returned (.bool false)∧Jx (pre++[x]) W'))
  (W:World) (hBs:W.cell? ⟨Bs,0,none⟩=some (.slice (some ⟨b,off,none⟩) len cap)) (hc:∀ j,j<len→W.cell? ⟨b,off+j,none⟩=some (.int .i64 (zs[j]?.getD 0))) (h0:J [] W) :
  CallsIn F n Tryz.prog 126 #[.func (.yield l) #[] #[],.pointer (some ⟨Bs,0,none⟩)] W fun e W'=>(∃ v,e=.returned v) ∧
   ((∃ ys,ys=upto (fun j=>zs[j]?.getD 0) len∧J ys W')∨(∃ pre,(∃ k,k≤len∧pre=upto (fun j=>zs[j]?.getD 0) k)∧Jx pre W')):=by
 refine callsIn_of_wp Tryz.func126 rfl h7 ?_ hro;simp only[Tryz.ntmps126,List.size_toArray,List.length_cons,List.length_nil,Nat.reduceAdd,Nat.reduceSub,Array.replicate_succ,Array.replicate_zero,List.push_toArray,List.append_toArray,List.nil_append,List.cons_append]
 gi_wp2
 gi_loopw [7] (fun i wr=>∃ k:Nat,k≤len∧i=.int .i64 k∧J (upto (fun j=>zs[j]?.getD 0) k) wr∧Below n₀ W wr)
  (fun i _=>len-(intOf i).toNat)
 case atStart=>exact⟨0,Nat.zero_le _,rfl,h0,Below.refl _ _⟩
 case round =>
  obtain⟨k,hk,rfl,hJs,hnx⟩:=hrel;have hcx:k<len→wr.cell? ⟨b,off+k,none⟩=some (.int .i64 (zs[k]?.getD 0)):=fun h=>(hnx.cell (p:=⟨b,off+k,none⟩) hb).trans (hc k h)
  by_cases hlt:k<len
  ·obtain⟨fn,tmps,assign,body,hy,hR⟩:=hY _ (zs[k]?.getD 0) wr hJs (by rw[Nv];exact hlt);have hcx':=hcx hlt
   gi_wp2
   refine hR.mono ?_
   rintro e W3 (⟨rfl,hJ3,hk3⟩ | ⟨rfl,hJx3⟩)
   ·gi_wp2
    go_roundw
    case rel=>exact⟨k+1,by omega,by simp,by rw[JG];exact hJ3,hnx.trans hk3⟩
    case measure=>simp[intOf];omega
   ·gi_wp2
    refine bodyPost_ret (results_none rfl _ _ _) rfl ?_;exact⟨⟨_,rfl⟩,.inr ⟨_,⟨k+1,by omega,(JG _ _).symm⟩,hJx3⟩⟩
  ·obtain rfl:k=len:=by omega
   gi_wp2
   go_end0
   exact⟨⟨_,rfl⟩,.inl ⟨_,rfl,hJs⟩⟩
def uW (n₀:Nat) (W:World) (sv:Value) (zs:List Int):Prop :=
 (∃ a cap,sv=.slice a 0 cap∧zs=[])∨∃ b off cap,sv=.slice (some ⟨b,off,none⟩) zs.length cap∧b<n₀∧∀ j,j<zs.length→W.cell? ⟨b,off+j,none⟩=some (.int .i64 (zs[j]?.getD 0))
theorem uW.below {n₀:Nat} {A B:World} (h:Below n₀ A B) {sv:Value} {zs:List Int}:uW n₀ A sv zs→uW n₀ B sv zs
 | .inl e=>.inl e
 | .inr ⟨b,off,cap,e,hb,hc⟩=>.inr ⟨b,off,cap,e,hb,fun j hj=>(h.cell (p:=⟨b,off+j,none⟩) hb).trans (hc j hj)⟩
theorem Ga (F:Fence) (n:Nat) (h7:F.fn 126) (hro:F.round=none) (l Bs:Nat) (J:List Int→World→Prop) (W:World) (a:Option Addr) (cap:Nat) (hBs:W.cell? ⟨Bs,0,none⟩=some (.slice a 0 cap)) (h0:J [] W) :
  CallsIn F n Tryz.prog 126 #[.func (.yield l) #[] #[],.pointer (some ⟨Bs,0,none⟩)] W fun e W'=>(∃ v,e=.returned v)∧J [] W':=by
 refine callsIn_of_wp Tryz.func126 rfl h7 ?_ hro;simp only[Tryz.ntmps126,List.size_toArray,List.length_cons,List.length_nil,Nat.reduceAdd,Nat.reduceSub,Array.replicate_succ,Array.replicate_zero,List.push_toArray,List.append_toArray,List.nil_append,List.cons_append]
 gi_wp2
 gi_loopw [7] (fun i wr=>i=.int .i64 0∧J [] wr) (fun _ _=>0)
 case atStart=>exact⟨rfl,h0⟩
 case round =>
  obtain⟨rfl,hJs⟩:=hrel
  gi_wp2
  go_end0
  exact⟨⟨_,rfl⟩,hJs⟩
theorem values_stops (F:Fence) (n:Nat) (h7:F.fn 126) (hro:F.round=none) (hn:1≤n) (Bs n₀:Nat) (sv:Value) (zs:List Int) (Rt:zs.length*8≤140737488351232) (w:World) (hBs:Bs<w.heap.size) (hn₀:n₀≤w.heap.size)
  (hc:w.cell? ⟨Bs,0,none⟩=some sv) (hI:uW n₀ w sv zs) :
  SeqStopsK F n Tryz.prog 126 #[.pointer (some ⟨Bs,0,none⟩)] (fun x:Int=>#[Value.int .i64 x]) (Below n₀) (fun ys=>ys=zs) (fun pre=>pre <+: zs) zs.length w:=fun l J Jx W hW _ _ hY h0=>by
 have hc':=(hW.cell (p:=⟨Bs,0,none⟩) hBs).trans hc;rcases hI.below (hW.mono hn₀) with ⟨a,cap,rfl,rfl⟩ | ⟨b,off,cap,rfl,hb,hcs⟩
 ·exact (Ga F n h7 hro l Bs J W a cap hc' h0).mono fun e W' ⟨he,hj⟩=>⟨he,.inl ⟨_,rfl,hj⟩⟩
 ·refine (Rs F n h7 hro hn l Bs n₀ b off zs.length cap zs Rt hb J Jx hY W hc' hcs h0).mono ?_
  rintro e W' ⟨he,⟨ys,rfl,hj⟩ | ⟨pre,⟨k,hk,rfl⟩,hj⟩⟩
  ·exact⟨he,.inl ⟨_,Y3 zs,hj⟩⟩
  ·exact⟨he,.inr ⟨_,by rw[Vn zs hk];exact List.take_prefix _ _,hj⟩⟩
theorem Tryz.Y4:∃ i,Tryz.prog.info? 3=some i∧i.zero=some (.int .i64 0)∧i.size=1∧i.bytes=8:=by
 have h:(Tryz.prog.info? 3).map (fun i=>(i.zero,i.size,i.bytes))=some (some (.int .i64 0),1,8):=by kernel_rfl
 obtain⟨i,hi,he⟩:=Option.map_eq_some_iff.1 h;simp only[Prod.mk.injEq] at he;exact⟨i,hi,he.1,he.2.1,he.2.2⟩
theorem abN:(27:TypeId)≠3:=by decide
theorem Vo (F:Fence) (n:Nat) (h46:F.fn 123) (h7:F.fn 126) (hro:F.round=none) (hn:3≤n) (Bs:Nat) (sv:Value) (zs:List Int) (Rt:zs.length≤1000000) (w:World) (hBs:Bs<w.heap.size)
  (hc:w.cell? ⟨Bs,0,none⟩=some sv) (hI:uW w.heap.size w sv zs) :
  CallsIn F n Tryz.prog 123 #[.slice none 0 0,.func (.func 126) #[] #[.pointer (some ⟨Bs,0,none⟩)]] w fun e w' =>
   ∃ v,e=.returned v∧w'.ownsRow w.heap.size 3 1 v zs.length (zs.map (Value.int .i64))∧Below w.heap.size w w':=by
 have h1:1≤n:=by omega
 obtain⟨i0,hi,hz0,hz1,hz2⟩:=Tryz.Y4;refine callsIn_of_wp_marks Tryz.func123 rfl h46 ?_ hro;simp only[Tryz.ntmps123,List.size_toArray,List.length_cons,List.length_nil,Nat.reduceAdd,Nat.reduceSub,Array.replicate_succ,Array.replicate_zero,List.push_toArray,List.append_toArray,List.nil_append,List.cons_append]
 gi_wp2
 have bS:=Boxed.new w 27 (.slice none 0 0);have hB0:Below w.heap.size w (w.alloc (.cells #[.slice none 0 0] 27)):=(Below.refl _ w).alloc (Nat.le_refl _) _
 refine wpIn_rangeFunc_ownG hro h1 (gf:=126) (lb:=#[.pointer (some ⟨Bs,0,none⟩)]) rfl h7 (enters_of Tryz.func126 (by kernel_rfl) rfl)
  (values_stops F (n-1) h7 hro (by omega) Bs w.heap.size sv zs (by omega) _ (by simp;omega) (by simp) ((hB0.cell (p:=⟨Bs,0,none⟩) hBs).trans hc) (hI.below hB0)) belowK_t (belowK_b (by simp)) (Below.refl _ _) (fun _=>rfl)
  (fun pre W=>(∃ v,Boxed W w.heap.size 27 v∧W.ownsRow w.heap.size 3 1 v pre.length (pre.map (Value.int .i64))∧True)∧Below w.heap.size w W)
  (fun _ _ _=>False)
  (OwnFrom.and (Own.from (holdsRow_own w.heap.size w.heap.size 27 3 1 (fun pre:List Int=>pre.length) (fun pre=>pre.map (Value.int .i64)) (fun _ _=>True)) _) (ownFrom_below (Nat.le_refl _) (by simp)))
  (fun _ _ _ _ _ hs _ _=>hs)
  ⟨⟨_,bS,⟨rfl,.inl ⟨rfl,rfl⟩⟩,trivial⟩,hB0⟩
  (fun x=>{ tmps:=#[.slice none 0 0,.func (.func 126) #[] #[.pointer (some ⟨Bs,0,none⟩)],.pointer (some ⟨w.heap.size,0,none⟩),undef,.slice none 0 0,.int .i64 x,.func (.func 126) #[] #[.pointer (some ⟨Bs,0,none⟩)],.int .i64 x,undef,undef,undef,undef,undef],defers:=[] }) ?assign ?body ?done ?stop
 case assign =>
  intro l x W K hK
  gi_wp2_with (rw[Oper.semAt_eq _ _ _ (fun c h=>by cases h)];go_simp;try go_bits)
  exact hK
 case body =>
  rintro l pre x W ⟨⟨v,hv,hrow,_⟩,hB⟩ hlen
  have hc1:=hv.cell;have hf1:=hv.frozen;have hsz:=hB.size
  gi_wp2_with (first
   | (gi_at_builtin;refine wpListIn_append_own _ rfl _ _ 27 rfl w.heap.size 3 i0 (.int .i64 0) 1 8 Tryz.underlying27 hi hz0 hz1 hz2 rfl (by decide) _ _ _ rfl (hrow.alloc _) ⟨W.heap.size,0,none⟩ 1 1 [.int .i64 x] rfl rfl (cell_one_new _ _ _) (by simp[Value.oneCell']) (by unfold maxLen;omega) (by omega) (by simp;omega) ?_;intro v' w3 hown' hg3 hnil3;obtain⟨q1,q2,q3,q4,q5⟩:=Boxed.appended hv abN hrow hsz (Nat.le_refl _) hown' hg3;obtain⟨g,cap,rfl⟩:=ownsRow_succ hown';have q6:=q1.cell;have q7:=q1.frozen)
   | (rw[Oper.semAt_eq _ _ _ (fun c h=>by cases h)];go_simp;try go_bits))
  exact⟨q4.from _,q5,⟨⟨_,q2,by simpa using q3,trivial⟩,hB.trans q5⟩⟩
 case done =>
  rintro D ys W hD rfl ⟨⟨v,hv,hrow,_⟩,hB⟩ hK
  have hc1:=hv.cell
  gi_wp2
  refine⟨by simp,.inl ⟨_,_,rfl,run_takeDeferred hK,?_⟩⟩;exact⟨_,results_tmp rfl _ _ _,v,rfl,ownsRow_putObj hrow _ hK rfl,hB.trans (belowK_b (w:=w) (Nat.le_refl _) W D _ _ (by simp at hD;omega) hK rfl rfl)⟩
 case stop =>
  rintro D c pre W _ _ h _
  exact h.elim
end Go.Proofs.YthbbmdnfkkffjaaGreat
namespace Go.Proofs.YthbbmdnfkkffjaaGreat
open Go.RowKit Go.Proofs.aC Go.Proofs.au
theorem fV {a b:Bool} (h:a=b):Ending.returned (.bool a)=.returned (.bool b):=by rw[h]
theorem K6 {k:IntKind} {a b:Int} (h:a=b):Ending.returned (.int k a)=.returned (.int k b):=by rw[h]
theorem sJ (A:Option Addr) (n cap:Nat) (xs:List Int) (x:Int) (w:World) (hr:Rd w A n xs) :
  Calls Tryz.prog 20 #[.slice A n cap,.int .i64 x] w fun e w'=>e=.returned (.bool (hasB xs x))∧w=w':=by
 have hs:=hr.small
 go_enter Tryz.func20,Tryz.ntmps20
 go_wp2
 go_loop [5] (fun i=>∃ k:Nat,k≤n∧i=.int .i64 k∧hasB (xs.take k) x=false) (fun i=>n-(intOf i).toNat)
 case atStart=>exact⟨0,Nat.zero_le _,rfl,by simp[hasB]⟩
 case round =>
  obtain⟨k,hk,rfl,hx⟩:=hrel;have hl:=hr.len
  by_cases hlt:k<n
  ·obtain⟨b,o,rfl,hc⟩:=hr.cells (by omega);have hck:=hc k hlt;have HS:=zH (DW (x:=x) (show k<xs.length by omega));have HX:=zH hx;clear hc hx hl
   cases hd:gi xs k==x
   all_goals go_wp2
   ·go_round
    case rel=>exact⟨k+1,by omega,by go_num,by rw[HS.out,HX.out,hd];rfl⟩
    case measure=>simp[intOf];omega
   ·go_ret
    exact⟨fV (Kj (k:=k+1) (by rw[HS.out,hd];simp)).symm,rfl⟩
  ·have HX:=zH hx;clear hx hl
   go_wp2
   go_ret
   refine⟨fV ?_,rfl⟩;rw[←HX.out,List.take_of_length_le (by have:=hr.len;omega)]
theorem Nw (A A':Option Addr) (n cap m cap':Nat) (xs ys:List Int) (w:World) (hr:Rd w A n xs) (hr':Rd w A' m ys) :
  Calls Tryz.prog 30 #[.slice A n cap,.slice A' m cap'] w fun e w'=>e=.returned (.bool (Wd xs ys))∧bJ w w':=by
 have hs:=hr.small;have hs':=hr'.small
 by_cases hnm:n=m
 ·subst hnm
  go_enter Tryz.func30,Tryz.ntmps30
  go_wp2
  go_loopw [5] (fun i wr=>∃ k:Nat,k≤n∧i=.int .i64 k∧xs.take k=ys.take k∧bJ w wr) (fun i _=>n-(intOf i).toNat)
  case atStart=>exact⟨0,Nat.zero_le _,rfl,by simp,bJ.refl w⟩
  case round =>
   obtain⟨k,hk,rfl,hx,hD⟩:=hrel
   by_cases hlt:k<n
   ·obtain⟨b,o,rfl,hc⟩:=(hr.drawn hD).cells (by omega);obtain⟨b',o',rfl,hc'⟩:=(hr'.drawn hD).cells (by omega);have hck:=hc k hlt;have aie:=hc' k hlt;have h0:(0:Int)≤(k:Int):=by omega
    have h1:(k:Int)<(n:Int):=by omega
    have HX:=zH hx;clear hc hc' hx
    cases hd:gi xs k != gi ys k
    all_goals
     go_wp2
     go_quiet (fail)
     go_wp2
    ·go_roundw
     case rel=>exact⟨k+1,by omega,by go_num,by rw[gV xs k (by have:=hr.len;omega),gV ys k (by have:=hr'.len;omega),HX.out,(by simpa using hd:gi xs k=gi ys k)],hD.step _⟩
     case measure=>simp[intOf];omega
    ·go_ret
     exact⟨fV (adA (k:=k) (by have:=hr.len;omega) (by rw[hr.len,hr'.len]) (by simpa using hd)).symm,hD.step _⟩
   ·have HX:=zH hx;clear hx
    go_wp2
    go_ret
    refine⟨fV (aaF (by rw[hr.len,hr'.len]) ?_).symm,hD⟩;have:=HX.out;rw[hr.len,show n=k by omega];exact this
 ·have hd:((n:Int) != (m:Int))=true:=by simp;omega
  go_enter Tryz.func30,Tryz.ntmps30
  go_wp2
  go_ret
  exact⟨fV (aaE (by rw[hr.len,hr'.len];exact hnm)).symm,bJ.refl w⟩
theorem Tryz.gQ:(Tryz.prog.info? 3).map (fun i=>(i.zero,i.size,i.bytes))=some (some (.int .i64 0),1,8):=by kernel_rfl
theorem K7 (A:Option Addr) (n cap:Nat) (xs:List Int) (w:World) (hr:Rd w A n xs) (hn:n*8≤140737488355328) :
  Calls Tryz.prog 33 #[.slice A n cap] w fun e w'=>∃ a c,e=.returned (iB a n c)∧St w.heap.size w w' (bO 3 a c xs):=by
 have abO:St w.heap.size w w (star (bO 3 none 0 []) emp):=⟨(St.start w).below,(St.start w).base,(St.start w).sat.uh _ _⟩;have hl:=zH hr.len
 go_enter Tryz.func33,Tryz.ntmps33
 go_wp2_with (at_builtin;refine gG rfl _ _ 27 3 rfl Tryz.underlying27 Tryz.gQ abO 0 rfl A n cap xs hr rfl rfl (by omega) ?_;intro a' c' w' h2)
 go_ret
 exact⟨a',c',by simp[iB],by simpa [aQ] using h2⟩
theorem Vp (k n:Int) (w:World) (hn:0<n) (hn':n≤100000) :
  Calls Tryz.prog 26 #[.int .i64 k,.int .i64 n] w fun e w'=>e=.returned (.int .i64 (Bb k n))∧w=w':=by
 have h1:=Int.tmod_lt_of_pos k hn
 have h2:-n<k.tmod n:=by
  have:=Int.neg_tmod k n;have:=Int.tmod_lt_of_pos (-k) hn;omega
 by_cases h3:k.tmod n<0
 all_goals
  have HP:=zH (show Bb k n=if k.tmod n<0 then k.tmod n+n else k.tmod n from rfl)
  go_enter Tryz.func26,Tryz.ntmps26
  go_wp2
  go_ret
  exact⟨K6 (by rw[HP.out];split <;> omega),rfl⟩
section
variable {B:Nat} {w0 w:World} {F:HP}
theorem St.K8 {b n c:Nat} {e:TypeId}:∀ (vs:List Value) (o:Nat) (xs:List Value) (w:World),St B w0 w (star (sl (some b) n c e 1 xs) F)→o+vs.length≤xs.length →
  St B w0 (w.setCells b o vs) (star (sl (some b) n c e 1 (xs.take o++vs++xs.drop (o+vs.length))) F)
 | [],o,xs,w,h,hl=>by simpa [World.setCells] using h
 | v :: r,o,xs,w,h,hl=>by
  simp only[List.length_cons] at hl;have h1:=St.fH (h:=h) o v (by omega);have h2:=St.K8 r (o+1) _ _ h1 (by rw[List.length_set];omega)
  have e1:(xs.set o v).take (o+1)++r++(xs.set o v).drop (o+1+r.length)=xs.take o++(v :: r)++xs.drop (o+(r.length+1)):=by
   rw[List.take_set,List.take_add_one,List.drop_set_of_lt (by omega)];have ho:o<xs.length:=by omega
   rw[List.getElem?_eq_getElem ho];simp only[Option.toList_some];rw[List.set_append_right _ _ (by simp;omega),List.length_take,Nat.min_eq_left (by omega),Nat.sub_self];simp only[List.set_cons_zero,List.append_assoc,List.cons_append,List.nil_append]
   congr 4
   omega
  rw[e1] at h2;exact h2
theorem below_grow (w:World) (os:Array Obj):Below w.heap.size w (Sort.grow w os) :=
 ⟨rfl,rfl,rfl,by simp[Sort.grow],fun k hk=>by simp[Sort.grow,Array.getElem?_append,hk]⟩
theorem sl_holds {b c:Nat} {xs:List Int} (h:St B w0 w (star (bO 3 (some b) c xs) F)):Sort.Holds (Value.int .i64) w b 0 xs.toArray:=by
 intro j hj;simp only[List.size_toArray] at hj;refine⟨?_,St.bZ (h:=h) _⟩;rw[Nat.zero_add,St.aW (h:=h) j (by rw[dL];exact hj),iZ _ _ hj,dh xs j hj];simp[hj]
def sorted (xs:List Int):List Int:=xs.mergeSort fun x y=>decide (x≤y)
theorem iq (xs:List Int):(sorted xs).length=xs.length:=by unfold sorted;simp
theorem Y5 (a:Option Nat) (c:Nat) (xs:List Int) (h:St B w0 w (star (bO 3 a c xs) F)) (hn:xs.length≤1000000) :
  Calls Tryz.prog 119 #[iB a xs.length c] w fun e w'=>e=.returned (.tuple #[])∧St B w0 w' (star (bO 3 a c (sorted xs)) F):=by
 cases a with
 | none =>
  obtain⟨_,_,_,hnone,_⟩:=h.sat.aR;obtain⟨h0,rfl⟩:=hnone rfl;have:xs=[]:=List.eq_nil_of_length_eq_zero h0;subst this;refine (Tryz.slices_Sort_int_none none 0 w).mono ?_
  rintro e w' ⟨rfl,rfl⟩
  have e0:sorted []=[]:=List.eq_nil_of_length_eq_zero (iq []);rw[e0];exact⟨rfl,h⟩
 | some b =>
  have hb:=(h.sat.aR.2.2.2.2 b rfl);obtain⟨cur,_,_,_,_,_,hp⟩:=h.sat.wG;have hlt:b<w.heap.size:=(Array.getElem?_eq_some_iff.1 (Sat.one hp).1).1;refine (Tryz.slices_Sort_int b 0 c xs w (sl_holds h) hlt (by omega)).mono ?_
  rintro e w' ⟨rfl,n,os,rfl⟩
  refine⟨rfl,?_⟩;have e1:=Lib.putRow_eq_setCells (Value.int .i64) w b 0 xs.toArray (sorted xs) n (sl_holds h) (by rw[iq];simp);have h1:=St.K8 ((sorted xs).map (Value.int .i64)) 0 _ _ (h.drewN n) (by rw[List.length_map,iq,dL];omega)
  have h2:St B w0 ((w.drewN n).setCells b 0 ((sorted xs).map (Value.int .i64))) (star (bO 3 (some b) c (sorted xs)) F):=by
   unfold bO;rw[iq]
   have e2:(ints xs).take 0++(sorted xs).map (Value.int .i64)++(ints xs).drop (0+((sorted xs).map (Value.int .i64)).length)=ints (sorted xs):=by
    rw[List.drop_of_length_le (by simp[iq])];simp[ints]
   rw[e2] at h1;exact h1
  rw[←e1] at h2;exact h2.grow (below_grow _ _)
theorem Ny (a:Option Nat) (c:Nat) (xs:List Int) (h:St B w0 w (star (bO 3 a c xs) F)) (hn:xs.length≤1000000) :
  Calls Tryz.prog 121 #[iB a xs.length c] w fun e w'=>e=.returned (iB a (Lib.compact xs).length c)∧St B w0 w' (star (bO 3 a c (Lib.compact xs)) F):=by
 obtain⟨_,hnc,_,hnone,_⟩:=h.sat.aR
 cases a with
 | none =>
  obtain⟨h0,rfl⟩:=hnone rfl;have:xs=[]:=List.eq_nil_of_length_eq_zero h0;subst this;refine (Tryz.slices_Compact_int_empty none 0 w).mono ?_
  rintro e w' ⟨rfl,rfl⟩
  exact⟨rfl,h⟩
 | some b =>
  refine (Tryz.slices_Compact_int b 0 c xs w (sl_holds h) (by omega) hnc).mono ?_
  rintro e w' ⟨rfl,q,rfl⟩
  refine⟨rfl,?_⟩;have hle:=Lib.compact_length_le xs;obtain⟨ys,hys⟩:∃ ys,Lib.compact xs++List.replicate (xs.length-(Lib.compact xs).length) 0=ys:=⟨_,rfl⟩;have hyl:ys.length=xs.length:=by rw[←hys];simp;omega
  rw[hys];have e1:=Lib.putRow_eq_setCells (Value.int .i64) w b 0 xs.toArray ys q (sl_holds h) (by rw[hyl];simp);have h1:=St.K8 (ys.map (Value.int .i64)) 0 _ _ (h.drewN q) (by rw[List.length_map,hyl,dL];omega)
  have e2:(ints xs).take 0++ys.map (Value.int .i64)++(ints xs).drop (0+(ys.map (Value.int .i64)).length)=ints ys:=by
   rw[List.drop_of_length_le (by simp[hyl])];simp[ints]
  rw[e2] at h1;rw[e1];have h2:=St.wU (h:=h1) (Lib.compact xs).length c (by omega) (by omega) (Nat.le_refl _)
  have e3:(ints ys).take ((Lib.compact xs).length*1)=ints (Lib.compact xs):=by
   rw[←hys,Nat.mul_one];simp[ints]
  rw[e3] at h2;exact h2
end
theorem Sat.aif {B:Nat} {w:World} {b:Nat} {o:Obj} (h:w.heap[b]?=some o) (hb:B≤b):Sat B w (aC.one b o) :=
 ⟨_,rfl,fun c o' hc=>by
  by_cases e:c=b
  ·subst e;simp at hc;subst hc;exact⟨hb,h⟩
  ·simp[e] at hc⟩
theorem St.ofRow {B n:Nat} {w w':World} {e:TypeId} {v:Value} {vs:List Value} (hb:Below B w w') (hB:B≤w.heap.size) (ho:w'.ownsRow B e 1 v n vs):∃ a c,v=iB a n c∧St B w w' (sl a n c e 1 vs):=by
 obtain⟨hl,⟨rfl,rfl⟩ | ⟨g,cap,cur,rfl,hg,hh,h1,h2,h3,h4⟩⟩:=ho
 ·refine⟨none,0,rfl,hb,Nat.le_trans hB hb.size,?_⟩;exact⟨fun _=>none,⟨by simpa using hl,rfl,rfl,rfl⟩,fun _ _ h=>by cases h⟩
 ·refine⟨some g,cap,rfl,hb,Nat.le_trans hB hb.size,?_⟩
  have hs:Sat B w' (star (pt g e cur.toList) emp):=by
   rw[aQ];exact Sat.aif (by simpa using hh) hg
  have:=hs.pO (xs:=vs) (n:=n) (c:=cap) (sz:=1) (by simpa using hl) h1 h2 (by simp;omega) (by simpa using h4);rw[aQ] at this;exact this
theorem Ru (A:Option Addr) (n c:Nat) (w:World) :
  Calls Tryz.prog 122 #[.slice A n c] w fun e w'=>e=.returned (.func (.func 126) #[] #[.pointer (some ⟨w.heap.size,0,none⟩)])∧w'=w.alloc (.cells #[.slice A n c] 27):=by
 go_enter Tryz.func122,Tryz.ntmps122
 go_wp2
 go_ret
 exact⟨rfl,rfl⟩
theorem uW.aii {A:Option Addr} {n c:Nat} {xs:List Int} {w w':World} (h:Rd w A n xs) (hb:Below w.heap.size w w') (N:Nat) (hN:w.heap.size≤N):uW N w' (.slice A n c) xs:=by
 by_cases hn:n=0
 ·subst hn;exact .inl ⟨A,c,rfl,List.eq_nil_of_length_eq_zero h.len⟩
 ·obtain⟨b,o,rfl,hc⟩:=h.cells (by omega);refine .inr ⟨b,o,c,by rw[h.len],?_,fun j hj=>?_⟩
  ·have:=World.block_lt_of_cell? w _ (hc 0 (by omega));simp only at this;omega
  ·have hj':j<n:=by have:=h.len;omega
   have hlt:=World.block_lt_of_cell? w _ (hc j hj');rw[hb.cell hlt,hc j hj'];simp[gi,List.getD_eq_getElem?_getD]
theorem Nz (A:Option Addr) (n c:Nat) (xs:List Int) (w:World) (hr:Rd w A n xs) (hn:n≤1000000) :
  Calls Tryz.prog 118 #[.func (.func 126) #[] #[.pointer (some ⟨w.heap.size,0,none⟩)]] (w.alloc (.cells #[.slice A n c] 27)) fun e w'=>∃ a c',e=.returned (iB a xs.length c')∧St w.heap.size w w' (bO 3 a c' xs):=by
 obtain⟨w1,hw1⟩:∃ w1,w.alloc (.cells #[.slice A n c] 27)=w1:=⟨_,rfl⟩;have hb:Below w.heap.size w w1:=by rw[←hw1];exact (Below.refl _ w).alloc (Nat.le_refl _) _
 have hs:w1.heap.size=w.heap.size+1:=by rw[←hw1];simp
 have hc:w1.cell? ⟨w.heap.size,0,none⟩=some (.slice A n c):=by rw[←hw1,cell_of_row _ _ _ _ _ _ (heap_alloc_new w _)];rfl
 have happ:=(callsIn_wide (n:=3)).1 (Vo Fence.wide 3 trivial trivial rfl (by omega) w.heap.size (.slice A n c) xs (by have:=hr.len;omega) w1 (by omega) hc (uW.aii hr hb _ (by omega)));have HA:=zH happ;have HB:=zH hb;rw[hw1];clear happ hr hc hb
 go_enter Tryz.func118,Tryz.ntmps118
 go_wp2_with (go_at_call 123;refine (HA.out).mono ?_;rintro e w2 ⟨v,rfl,ho,hb2⟩)
 go_ret
 have hb3:Below w.heap.size w w2:=HB.out.trans (hb2.mono (by omega))
 have ho2:w2.ownsRow w.heap.size 3 1 v xs.length (xs.map (Value.int .i64)):=by
  refine⟨ho.1,?_⟩;rcases ho.2 with h | ⟨g,cap,cur,e,hg,rest⟩
  ·exact .inl h
  ·exact .inr ⟨g,cap,cur,e,by omega,rest⟩
 obtain⟨a,c',rfl,hst⟩:=St.ofRow hb3 (Nat.le_refl _) ho2;exact⟨a,c',rfl,hst⟩
theorem Rv (A:Option Addr) (n c:Nat) (xs:List Int) (w:World) (hr:Rd w A n xs) (hn:n≤1000000) :
  Calls Tryz.prog 112 #[.func (.func 126) #[] #[.pointer (some ⟨w.heap.size,0,none⟩)]] (w.alloc (.cells #[.slice A n c] 27)) fun e w'=>∃ a c',e=.returned (iB a (sorted xs).length c')∧St w.heap.size w w' (bO 3 a c' (sorted xs)):=by
 have hc:=Nz A n c xs w hr hn;have HC:=zH hc;have hl:xs.length≤1000000:=by have:=hr.len;omega
 obtain⟨w1,hw1⟩:∃ w1,w.alloc (.cells #[.slice A n c] 27)=w1:=⟨_,rfl⟩;rw[hw1] at HC ⊢;clear hc hr hw1
 go_enter Tryz.func112,Tryz.ntmps112
 go_wp2_with (first
  | (go_at_call 118;refine (HC.out).mono ?_;rintro e w2 ⟨a,c',rfl,h2⟩)
  | (go_at_call 119;refine (Y5 a c' xs (h2.aB (aQ _).symm) hl).mono ?_;rintro e w3 ⟨rfl,h3⟩))
 go_ret
 refine⟨a,c',?_,h3.aB (aQ _)⟩;rw[iq];rfl
theorem qZ (A:Option Addr) (n c:Nat) (xs:List Int) (w:World) (hr:Rd w A n xs) (hn:n≤1000000) :
  Calls Tryz.prog 66 #[.slice A n c] w fun e w'=>∃ a c',e=.returned (iB a xs.length c')∧St w.heap.size w w' (bO 3 a c' xs):=by
 have hl:=hr.len
 cases A with
 | none =>
  have hn0:n=0:=by
   apply Classical.byContradiction;intro h;obtain⟨b,o,e,_⟩:=hr.cells (by omega)
   cases e
  subst hn0;obtain rfl:xs=[]:=List.eq_nil_of_length_eq_zero hl;refine (Tryz.slices_Clone_int_nil 0 c w).mono ?_
  rintro e w' ⟨rfl,rfl⟩
  refine⟨none,0,rfl,?_⟩;have:=(St.start w').sat.uh (e:=3) (sz:=1);rw[aQ] at this;exact⟨Below.refl _ _,Nat.le_refl _,this⟩
 | some a =>
  by_cases hn0:n=0
  ·subst hn0;obtain rfl:xs=[]:=List.eq_nil_of_length_eq_zero hl;refine (Tryz.slices_Clone_int_zero a c w).mono ?_
   rintro e w' ⟨v,rfl,ho,_,hb⟩
   obtain⟨a',c',rfl,hst⟩:=St.ofRow hb (Nat.le_refl _) ho;exact⟨a',c',rfl,hst⟩
  ·obtain⟨b,o,e,hc⟩:=hr.cells (by omega)
   cases e
   refine (Tryz.slices_Clone_int b o n c xs w (by omega) (by omega) (fun j hj=>hc j (by omega))).mono ?_
   rintro e w' ⟨v,rfl,ho,_,hb⟩
   obtain⟨a',c',rfl,hst⟩:=St.ofRow hb (Nat.le_refl _) ho;rw[List.take_of_length_le (by omega)] at hst;refine⟨a',c',by rw[hl],?_⟩;unfold bO;rw[hl];exact hst
end Go.Proofs.YthbbmdnfkkffjaaGreat

/-
  Parts of the proof, joined by program: Hp5, Hp6.
-/
import Derived.Test.YthbbmdnfkkffjaaGreatZ06
import Derived.Deep.RegionLaw
import Derived.Laws.BitsLemmas
import Derived.Deep.DeepCutAuto
namespace Go.Proofs.YthbbmdnfkkffjaaGreat
open Go.RowKit Go.Proofs.PlaitSep Go.Proofs.PlaitPure Go.Proofs.PlaitSat
theorem Tryz.infoU64:(Tryz.prog.info? 137).map (fun i=>(i.zero,i.size,i.bytes))=some (some (.int .u64 0),1,8):=by kernel_rfl
section
variable {B:Nat} {w0 w:World} {p:Nat} {M:MM} {F:HP}
set_option maxRecDepth 100000 in
set_option maxHeartbeats 2000000 in
theorem take_any (h:At B w0 w p M F) (hb:HB M.sv) :
  Calls Tryz.prog 93 #[.pointer (some ⟨p,15,none⟩)] w fun e w'=>e=.returned (.int .i64 M.sv.take.2)∧HeapAt B w0 w' p M F M.sv.take.1:=by
 obtain⟨N,hN⟩:∃ N,M.value.xs.length=N:=⟨_,rfl⟩
 have hpl:M.place.xs.length=N:=by rw[←hN];exact hb.place
 have hsm:N≤100000:=by rw[←hN];exact hb.small
 have hhl:M.hl.xs.length≤N:=by rw[←hN];exact hb.hl
 have hv:∀ x∈M.hl.xs,x<N:=by rw[←hN];exact hb.vars
 have c1:=h.c_hl
 obtain⟨ln,hln⟩:∃ ln,M.hl.xs.length=ln:=⟨_,rfl⟩
 rw[hln] at c1 hhl
 have htk:M.sv.take=if M.hl.xs.length=0 then (M.sv,0) else (M.sv.taken,gn M.hl.xs 0):=rfl
 rw[hln] at htk
 have H:=Lib.hid h
 have HBH:=Lib.hid hb
 have HLN:=Lib.hid hln
 have HPL:=Lib.hid hpl
 have HV:=Lib.hid hv
 have HN:=Lib.hid hN
 by_cases hl0:ln=0
 ·subst hl0
  rw[if_pos rfl] at htk
  have HTK:=Lib.hid htk
  clear h hb hN hpl hln hv htk
  go_enter Tryz.func93,Tryz.ntmps93
  go_wp2
  go_ret
  exact⟨by rw[HTK.out];rfl,M.hl,M.place,M.met,H.out,by rw[HTK.out]⟩
 ·rw[if_neg hl0] at htk
  obtain⟨m,hm⟩:∃ m,ln=m+1:=⟨ln-1,by omega⟩
  have hm1:(ln:Int)-1=(m:Int):=by omega
  obtain⟨bh,hbh⟩:=h.b_hl (by omega)
  obtain⟨bp,hbp⟩:=h.b_place (by omega)
  obtain⟨d1,_⟩:=h.r_hl hbh (gn_some M.hl.xs 0 (by omega))
  obtain⟨d2,_⟩:=h.r_hl hbh (gn_some M.hl.xs m (by omega))
  have hx0:gn M.hl.xs 0<N:=hv _ (gn_mem _ _ (by omega))
  have hx1:gn M.hl.xs m<N:=hv _ (gn_mem _ _ (by omega))
  have htd:M.sv.taken=if M.hl.xs.length=1 then MM.sv ((M.u_hl ⟨M.hl.a,M.hl.c,[]⟩).u_place ⟨M.place.a,M.place.c,M.place.xs.set (gn M.hl.xs 0) 0⟩)
   else ((MM.sv ((M.u_hl ⟨M.hl.a,M.hl.c,M.hl.xs.take (M.hl.xs.length-1)⟩).u_place ⟨M.place.a,M.place.c,M.place.xs.set (gn M.hl.xs 0) 0⟩)).lay 0 (gn M.hl.xs (M.hl.xs.length-1))).down 0:=rfl
  rw[hln,show ln-1=m by omega] at htd
  obtain⟨x,hx⟩:∃ x,gn M.hl.xs 0=x:=⟨_,rfl⟩
  obtain⟨y,hy⟩:∃ y,gn M.hl.xs m=y:=⟨_,rfl⟩
  rw[hx] at d1 hx0 htk htd
  rw[hy] at d2 hx1 htd
  obtain⟨d3,d4⟩:=h.r_place hbp (gn_some M.place.xs x (by omega))
  have c2:=h.c_place
  have f1:=h.fz 15
  rw[hbp,hpl] at c2
  rw[hbh] at c1
  simp only[Option.map_some,vN] at c1 c2 d1 d2 d3
  have n1:¬ bh=bp:=h.ne2 (i:=8) (j:=9) rfl rfl (by decide) hbh hbp
  have n2:¬ bp=bh:=fun e=>n1 e.symm
  have n3:¬ bh=p:=h.n_hl hbh
  have n4:¬ bp=p:=h.n_place hbp
  have n5:¬ p=bp:=fun e=>n4 e.symm
  have n6:¬ p=bh:=fun e=>n3 e.symm
  have HBP:=Lib.hid hbp
  have HTK:=Lib.hid htk
  have HTD:=Lib.hid htd
  have HBB:=Lib.hid hbh
  have m0:(0:Int)≤(m:Int):=by omega
  have m1:(m:Int)<(ln:Int):=by omega
  have l0:(0:Int)<(ln:Int):=by omega
  have x0:(0:Int)≤(x:Int):=by omega
  have x1:(x:Int)<(N:Int):=by omega
  have HM:=Lib.hid hm
  have hmb:m≤100000:=by omega
  have hmw:IntKind.i64.wrap (m:Int)=(m:Int):=by rw[IntKind.wrap_i64];omega
  obtain⟨hc,hhc⟩:∃ hc,M.hl.c=hc:=⟨_,rfl⟩
  have hlc:ln≤M.hl.c:=by have:=h.t_hl.sat.sl_facts.2.1;omega
  rw[hhc] at c1 hlc
  have HHC:=Lib.hid hhc
  have hmc:(m:Int)≤(hc:Int):=by omega
  have HCUT:=Lib.hid (show ∀ V,At B w0 V p M F→At B w0 (V.setCell ⟨p,15,none⟩ (.slice (some ⟨bh,0,none⟩) m hc)) p (M.u_hl ⟨M.hl.a,M.hl.c,M.hl.xs.take m⟩) F from fun V hV=>by have:=hV.cut_hl (n:=m) (by rw[HLN.out];omega);rw[HBB.out,hhc] at this;rw[HBB.out,hhc];exact this)
  clear hhc
  clear h hb hN hpl hln hv htk htd hx hy hbp hbh hm
  by_cases hm0:m=0
  ·subst hm0
   go_enter Tryz.func93,Tryz.ntmps93
   go_wp2
   go_quiet (fail)
   go_wp2
   go_region
   go_wp2_with fail
   go_ret
   have h1:=((HCUT.out _ (H.out.drewN (nq+1))).set_place (M:=M.u_hl ⟨M.hl.a,M.hl.c,M.hl.xs.take 0⟩) HBP.out (by show x<M.place.xs.length;rw[HPL.out];omega) 0)
   refine⟨by rw[HTK.out];rfl,_,_,M.met,h1,?_⟩
   rw[HTK.out]
   show _=M.sv.taken
   rw[HTD.out,if_pos (by have:=HM.out;omega)]
   rfl
  ·have mp:(0:Int)<(m:Int):=by omega
   go_enter Tryz.func93,Tryz.ntmps93
   go_wp2
   go_quiet (fail)
   go_wp2
   go_region
   go_wp2_with fail
   have h1:=((HCUT.out _ (H.out.drewN (nq+1))).set_place (M:=M.u_hl ⟨M.hl.a,M.hl.c,M.hl.xs.take m⟩) HBP.out (by show x<M.place.xs.length;rw[HPL.out];omega) 0)
   have hlm:(M.hl.xs.take m).length=m:=by rw[List.length_take,HLN.out];omega
   have hb1:HB (MM.sv ((M.u_hl ⟨M.hl.a,M.hl.c,M.hl.xs.take m⟩).u_place ⟨M.place.a,M.place.c,M.place.xs.set x 0⟩)) :=
    ⟨HBH.out.small,fun z hz=>HBH.out.vars z (List.mem_of_mem_take hz),by show (M.place.xs.set x 0).length=_;rw[List.length_set];exact HBH.out.place,HBH.out.met,by show (M.hl.xs.take m).length≤_;rw[hlm];have h9:M.hl.xs.length≤M.value.xs.length:=HBH.out.hl;rw[HLN.out] at h9;show m≤M.value.xs.length;omega⟩
   have HB1:=Lib.hid hb1
   have HLM:=Lib.hid hlm
   refine (lay_any 0 y h1 (by show 0<(M.hl.xs.take m).length;rw[hlm];omega) (by show y<(M.place.xs.set x 0).length;rw[List.length_set,HPL.out];omega) (by show (M.hl.xs.take m).length≤_;rw[hlm];omega) (by show (M.place.xs.set x 0).length≤_;rw[List.length_set,HPL.out];omega)).mono ?_
   rintro e w4 ⟨rfl,a2,b2,h4,h5⟩
   have hb2:=hb1.lay (i:=0) (v:=y) (by show y<M.value.xs.length;rw[HN.out];omega)
   rw[←h5] at hb2
   have ha2:a2.xs.length=m:=by
    have:=congrArg (fun S:SM=>S.hl.length) h5
    have h6:((MM.sv ((M.u_hl ⟨M.hl.a,M.hl.c,M.hl.xs.take m⟩).u_place ⟨M.place.a,M.place.c,M.place.xs.set x 0⟩)).lay 0 y).hl.length=m:=by show ((M.hl.xs.take m).set 0 y).length=m;rw[List.length_set,hlm]
    exact this.trans h6
   have H4:=Lib.hid h4
   have H5:=Lib.hid h5
   have HB2:=Lib.hid hb2
   have HA2:=Lib.hid ha2
   clear h1 hlm hb1 h4 h5 hb2 ha2
   go_wp2_with fail
   refine (down_any 0 H4.out HB2.out (by show 0<a2.xs.length;rw[HA2.out];omega)).mono ?_
   rintro e w5 ⟨rfl,a3,b3,c3,h4,h5⟩
   have H6:=Lib.hid h4
   have H7:=Lib.hid h5
   clear h4 h5
   go_wp2
   go_ret
   refine⟨by rw[HTK.out];rfl,a3,b3,c3,H6.out,?_⟩
   rw[HTK.out]
   show _=M.sv.taken
   rw[HTD.out,if_neg (by have:=HM.out;omega),←H5.out]
   exact H7.out
end
end Go.Proofs.YthbbmdnfkkffjaaGreat
namespace Go.Proofs.YthbbmdnfkkffjaaGreat
open Go.RowKit Go.Proofs.PlaitSep Go.Proofs.PlaitPure Go.Proofs.PlaitSat
section
variable {B:Nat} {w0 w:World} {p:Nat} {M:MM} {F:HP}
theorem At.push2 {b1 c1 b2 c2 n1 n2:Nat} {x y:Nat} (hl:M.last.xs=[]→M.last.a=none) (h1:M.place.xs.length=n1) (h2:M.met.xs.length=n2)
  (h:St B w0 w (star (sl (some b2) (n2+1) c2 137 1 (M.met.xs.map v64++[v64 y])) (star (stars (((parts p M).set 9 (sl (some b1) (n1+1) c1 3 1 (M.place.xs.map vN++[vN x]))).eraseIdx 10)) F))) :
  (w.cell? ⟨p,16,none⟩=some (.slice (M.place.a.map fun b=>⟨b,0,none⟩) n1 M.place.c)∧w.frozen? ⟨p,16,none⟩=false)∧(w.cell? ⟨p,17,none⟩=some (.slice (M.met.a.map fun b=>⟨b,0,none⟩) n2 M.met.c)∧w.frozen? ⟨p,17,none⟩=false) ∧
  At B w0 ((w.setCell ⟨p,16,none⟩ (.slice (some ⟨b1,0,none⟩) (n1+1) c1)).setCell ⟨p,17,none⟩ (.slice (some ⟨b2,0,none⟩) (n2+1) c2)) p ((M.u_place ⟨some b1,c1,M.place.xs++[x]⟩).u_met ⟨some b2,c2,M.met.xs++[y]⟩) F:=by
 subst h1 h2
 have g2:=h.unfocusK (Ps:=(parts p M).set 9 _) (k:=10) (by simp[parts])
 have g3:=g2.focusK (Ps:=((parts p M).set 9 _).set 10 _) (k:=0) (P:=pt p 92 (cellsM M)) rfl
 refine⟨⟨g3.pt_cell 16,g3.pt_free 16⟩,⟨g3.pt_cell 17,g3.pt_free 17⟩,?_⟩
 have g4:=(g3.pt_set 16 (.slice (some ⟨b1,0,none⟩) (M.place.xs.length+1) c1)).pt_set 17 (.slice (some ⟨b2,0,none⟩) (M.met.xs.length+1) c2)
 have g5:=g4.unfocusK (Ps:=((parts p M).set 9 (sl (some b1) (M.place.xs.length+1) c1 3 1 (M.place.xs.map vN++[vN x]))).set 10 (sl (some b2) (M.met.xs.length+1) c2 137 1 (M.met.xs.map v64++[v64 y]))) (k:=0) (by simp[parts])
 refine⟨g5.conseq ?_,hl⟩
 simp only[parts,cellsM,Fl.hp,Fl.v,List.map_append,List.map_cons,List.map_nil,List.length_append,List.length_singleton,List.set_cons_succ,List.set_cons_zero,Option.map_some]
set_option maxRecDepth 100000 in
set_option maxHeartbeats 2000000 in
theorem hgrow_any (v:Nat) (h:At B w0 w p M F) (hs:M.place.xs.length≤100000) (hs2:M.met.xs.length≤100000)
  (hb:0<v→HB (MM.sv ((M.u_place ⟨M.place.a,M.place.c,M.place.xs++[0]⟩).u_met ⟨M.met.a,M.met.c,M.met.xs++[0]⟩))∧v<M.value.xs.length∧M.hl.xs.length<M.value.xs.length) (hv:v≤100000) :
  Calls Tryz.prog 81 #[.pointer (some ⟨p,15,none⟩),.int .i64 v] w fun e w'=>e=.returned (.tuple #[]) ∧
   HeapAt B w0 w' p M F (if v=0 then MM.sv ((M.u_place ⟨M.place.a,M.place.c,M.place.xs++[0]⟩).u_met ⟨M.met.a,M.met.c,M.met.xs++[0]⟩) else (MM.sv ((M.u_place ⟨M.place.a,M.place.c,M.place.xs++[0]⟩).u_met ⟨M.met.a,M.met.c,M.met.xs++[0]⟩)).put v):=by
 obtain⟨lp,hlp⟩:∃ lp,M.place.xs.length=lp:=⟨_,rfl⟩
 obtain⟨lm,hlm⟩:∃ lm,M.met.xs.length=lm:=⟨_,rfl⟩
 have c1:=h.c_place
 have c2:=h.c_met
 have t1:=h.t_place
 rw[hlp] at c1 hs t1
 rw[hlm] at c2 hs2
 have H:=Lib.hid h
 have HLP:=Lib.hid hlp
 have HLM:=Lib.hid hlm
 have HB0:=Lib.hid hb
 have HT1:=Lib.hid t1
 have hpla:∀ k,w.heap.size≤k→M.place.a≠some k:=fun k hk e=>by have:=(h.l_place e).1;omega
 have HP1:=Lib.hid (show ∀ b1 c1' (w1:World),St B w0 w1 (star (sl (some b1) (lp+1) c1' 3 1 (M.place.xs.map vN++[vN 0])) (star (stars ((parts p M).eraseIdx 9)) F)) →
   w1.cell? ⟨p,17,none⟩=some (.slice (M.met.a.map fun b=>⟨b,0,none⟩) lm M.met.c)∧St B w0 w1 (star (sl M.met.a lm M.met.c 137 1 (M.met.xs.map v64)) (star (stars (((parts p M).set 9 (sl (some b1) (lp+1) c1' 3 1 (M.place.xs.map vN++[vN 0]))).eraseIdx 10)) F))∧∀ o,(w1.alloc o).cell? ⟨p,17,none⟩=some (.slice (M.met.a.map fun b=>⟨b,0,none⟩) lm M.met.c) from fun b1 c1' w1 g=>by
  have g2:=g.unfocusK (Ps:=parts p M) (k:=9) (by simp[parts])
  have g3:w1.cell? ⟨p,17,none⟩=some (.slice (M.met.a.map fun b=>⟨b,0,none⟩) lm M.met.c):=by
   rw[←hlm]
   exact (g2.focusK (Ps:=(parts p M).set 9 _) (k:=0) (P:=pt p 92 (cellsM M)) rfl).pt_cell 17
  refine⟨g3,?_,fun o=>(World.cell?_alloc_some _ _ _ (by rw[g3];rfl)).trans g3⟩
  rw[←hlm]
  exact g2.focusK (Ps:=(parts p M).set 9 _) (k:=10) rfl)
 have HP2:=Lib.hid (show ∀ b1 c1' b2 c2' (w2:World),St B w0 w2 (star (sl (some b2) (lm+1) c2' 137 1 (M.met.xs.map v64++[v64 0])) (star (stars (((parts p M).set 9 (sl (some b1) (lp+1) c1' 3 1 (M.place.xs.map vN++[vN 0]))).eraseIdx 10)) F))→_ from fun b1 c1' b2 c2' w2 g=>At.push2 (p:=p) (M:=M) (F:=F) h.lastN hlp hlm g)
 have HQ1:=Lib.hid (show ∀ (w1:World) ,(∀ k,k<((w.drew.alloc (.cells #[.int .i64 0] 3)).alloc (.cells #[.int .u64 0] 137)).heap.size→M.place.a≠some k→w1.heap[k]?=((w.drew.alloc (.cells #[.int .i64 0] 3)).alloc (.cells #[.int .u64 0] 137)).heap[k]?)→w1.cell? ⟨w.heap.size+1,0,none⟩=some (.int .u64 0) from fun w1 hk=>by
  have:=cell_new2 w.drew (.int .u64 0) 137 (.cells #[.int .i64 0] 3)
  rw[←this]
  unfold World.cell?
  rw[hk (w.heap.size+1) (by rw[size_two];omega) (hpla _ (by omega))]
  rfl)
 have HQ2:=Lib.hid (show ∀ (w1:World) ,(∀ k,k<((w.drew.alloc (.cells #[.int .u64 0] 137)).alloc (.cells #[.int .i64 0] 3)).heap.size→M.place.a≠some k→w1.heap[k]?=((w.drew.alloc (.cells #[.int .u64 0] 137)).alloc (.cells #[.int .i64 0] 3)).heap[k]?)→w1.cell? ⟨w.heap.size,0,none⟩=some (.int .u64 0) from fun w1 hk=>by
  have:=cell_old w.drew (.int .u64 0) 137 (.cells #[.int .i64 0] 3)
  rw[←this]
  unfold World.cell?
  rw[hk w.heap.size (by rw[size_two];omega) (hpla _ (by omega))]
  rfl)
 have e1:∀ o,(w.alloc o).cell? ⟨p,16,none⟩=some (.slice (M.place.a.map fun b=>⟨b,0,none⟩) lp M.place.c):=fun o=>(World.cell?_alloc_some _ _ _ (by rw[c1];rfl)).trans c1
 have e2:∀ o,(w.alloc o).cell? ⟨p,17,none⟩=some (.slice (M.met.a.map fun b=>⟨b,0,none⟩) lm M.met.c):=fun o=>(World.cell?_alloc_some _ _ _ (by rw[c2];rfl)).trans c2
 have e3:∀ o o',((w.alloc o).alloc o').cell? ⟨p,16,none⟩=some (.slice (M.place.a.map fun b=>⟨b,0,none⟩) lp M.place.c):=fun o o'=>(World.cell?_alloc_some _ _ _ (by rw[e1];rfl)).trans (e1 o)
 have e4:∀ o o',((w.alloc o).alloc o').cell? ⟨p,17,none⟩=some (.slice (M.met.a.map fun b=>⟨b,0,none⟩) lm M.met.c):=fun o o'=>(World.cell?_alloc_some _ _ _ (by rw[e2];rfl)).trans (e2 o)
 clear h hlp hlm t1 hb hpla
 go_enter Tryz.func81,Tryz.ntmps81
 go_wp2
 go_cut [11] (fun _ wx=>∃ b1 c1 b2 c2,At B w0 wx p ((M.u_place ⟨some b1,c1,M.place.xs++[0]⟩).u_met ⟨some b2,c2,M.met.xs++[0]⟩) F)
 case first =>
  go_region_law ((first
  | (refine step_append1 (by rfl) _ _ 27 3 (.int .i64 0) 8 (by rfl) Tryz.underlying27 Tryz.infoIntS rfl (HT1.out.drew.alloc _) (by rfl) w.heap.size (.int .i64 0) (by rfl) (cell_new w.drew _ _) rfl (by omega) (by simp only[maxLen];omega) ?_;intro b1 c1' w1 g1 k1;obtain⟨g2,g3,g2a⟩:=HP1.out _ _ _ g1)
  | (refine step_append1 (by rfl) _ _ 27 3 (.int .i64 0) 8 (by rfl) Tryz.underlying27 Tryz.infoIntS rfl ((HT1.out.drew.alloc _).alloc _) (by rfl) w.heap.size (.int .i64 0) (by rfl) (cell_old w.drew _ _ _) rfl (by omega) (by simp only[maxLen];omega) ?_;intro b1 c1' w1 g1 k1;obtain⟨g2,g3,g2a⟩:=HP1.out _ _ _ g1;have q1:=HQ1.out _ k1)
  | (refine step_append1 (by rfl) _ _ 27 3 (.int .i64 0) 8 (by rfl) Tryz.underlying27 Tryz.infoIntS rfl ((HT1.out.drew.alloc _).alloc _) (by rfl) (w.heap.size+1) (.int .i64 0) (by rfl) (cell_new2 w.drew _ _ _) rfl (by omega) (by simp only[maxLen];omega) ?_;intro b1 c1' w1 g1 k1;obtain⟨g2,g3,g2a⟩:=HP1.out _ _ _ g1;have q1:=HQ2.out _ k1)
  | (refine step_append1 (by rfl) _ _ 86 137 (.int .u64 0) 8 (by rfl) Tryz.underlying86 Tryz.infoU64 rfl (g3.alloc _) (by rfl) w1.heap.size (.int .u64 0) (by rfl) (cell_new w1 _ _) rfl (by omega) (by simp only[maxLen];omega) ?_;intro b2 c2' w2 g4 _;obtain⟨⟨g5,g6⟩,⟨g7,g8⟩,g9⟩:=HP2.out _ _ _ _ _ g4)
  | (refine step_append1 (by rfl) _ _ 86 137 (.int .u64 0) 8 (by rfl) Tryz.underlying86 Tryz.infoU64 rfl g3 (by rfl) (w.heap.size+1) (.int .u64 0) (by rfl) q1 rfl (by omega) (by simp only[maxLen];omega) ?_;intro b2 c2' w2 g4 _;obtain⟨⟨g5,g6⟩,⟨g7,g8⟩,g9⟩:=HP2.out _ _ _ _ _ g4)
  | (refine step_append1 (by rfl) _ _ 86 137 (.int .u64 0) 8 (by rfl) Tryz.underlying86 Tryz.infoU64 rfl g3 (by rfl) w.heap.size (.int .u64 0) (by rfl) q1 rfl (by omega) (by simp only[maxLen];omega) ?_;intro b2 c2' w2 g4 _;obtain⟨⟨g5,g6⟩,⟨g7,g8⟩,g9⟩:=HP2.out _ _ _ _ _ g4)))
  all_goals
   go_wp2_with fail
   go_meet
   case rel=>first | exact⟨_,_,_,_,g9⟩ | exact⟨_,_,_,_,g9.drewN 1⟩
 case rest =>
 obtain⟨b1,c1,b2,c2,h3⟩:=hcut
 have H3:=Lib.hid h3
 clear h3
 by_cases hv0:v=0
 ·subst hv0
  go_wp2
  go_end0
  exact⟨rfl,M.hl,_,_,H3.out,rfl⟩
 ·have e5:decide ((0:Int)<(v:Int))=true:=by simp;omega
  obtain⟨q1,q2,q3⟩:=HB0.out (by omega)
  have HQ:=Lib.hid (put_any v H3.out q1 q2 (fun _=>q3))
  clear q1 q2 q3
  go_wp2_with fail
  refine HQ.out.mono ?_
  rintro e w4 ⟨rfl,a,b,c,h4,h5⟩
  have H4:=Lib.hid h4
  have H5:=Lib.hid h5
  clear h4 h5
  go_wp2
  go_end0
  exact⟨rfl,a,b,c,H4.out,H5.out⟩
end
end Go.Proofs.YthbbmdnfkkffjaaGreat

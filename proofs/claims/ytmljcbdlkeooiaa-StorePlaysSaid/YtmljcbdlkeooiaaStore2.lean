/-
  The contract of the store's watch.
-/
import Derived.Test.YtmljcbdlkeooiaaStore1
import Derived.Deep.RegionLaw
import Derived.BigRegion
namespace Go.Proofs.Ytmljcbdlkeooiaa
open Go.RowKit Go.Proofs.PlaitSep Go.Proofs.PlaitPure

theorem Try.infoInts : (Try.prog.info? 27).map (fun i => (i.zero, i.size, i.bytes)) = some (some (.slice none 0 0), 1, 24) := by kernel_rfl

/-- One list of watches more: behind the append, ahead of the store. -/
theorem StoreAt.push {B : Nat} {w0 w : World} {p : Nat} {L : SLay} {S : SM} {F : HP} (hw : L.W.map (fun x => x.2.2) = S.watches) {b' c' : Nat}
    (h : St B w0 w (star (sl (some b') (L.W.length + 1) c' 27 1 (outer L.W ++ [.slice none 0 0])) (star (star (pt p 54 (storeCells L S)) (star (sli 3 L.wv L.wc S.words) (star (sli 3 L.bv L.bc S.begins) (star (sli 3 L.sv L.sc S.short) (stars (inner L.W)))))) F))) :
    w.cell? ⟨p, 3, none⟩ = some (slv L.av L.W.length L.ac) ∧ w.frozen? ⟨p, 3, none⟩ = false ∧
    StoreAt B w0 (w.setCell ⟨p, 3, none⟩ (.slice (some ⟨b', 0, none⟩) (L.W.length + 1) c')) p { L with av := some b', ac := c', W := L.W ++ [(none, 0, [])] } { S with watches := S.watches ++ [[]] } F := by
  have h1 : St B w0 w (star (pt p 54 (storeCells L S)) (star (star (sl (some b') (L.W.length + 1) c' 27 1 (outer L.W ++ [.slice none 0 0])) (star (sli 3 L.wv L.wc S.words) (star (sli 3 L.bv L.bc S.begins) (star (sli 3 L.sv L.sc S.short) (stars (inner L.W)))))) F)) := h.conseq (by ac_rfl)
  refine ⟨by rw [h1.pt_cell 3]; rfl, h1.pt_free 3, ?_, by simp [hw]⟩
  refine (h1.pt_set 3 (.slice (some ⟨b', 0, none⟩) (L.W.length + 1) c')).conseq ?_
  unfold storeHP
  rw [inner_append, stars_append, outer_append]
  have e1 : stars (inner [((none : Option Nat), 0, ([] : List Nat))]) = emp := by simp [inner, stars_one, natInts, sli_nil]
  have e2 : (storeCells L S).set 3 (.slice (some ⟨b', 0, none⟩) (L.W.length + 1) c') = storeCells { L with av := some b', ac := c', W := L.W ++ [(none, 0, [])] } { S with watches := S.watches ++ [[]] } := by simp only [storeCells, slv, List.set_cons_succ, List.set_cons_zero, List.length_append, List.length_singleton, Option.map_some]; rfl
  have e3 : ({ S with watches := S.watches ++ [[]] } : SM).begins = S.begins := rfl
  have e4 : ({ S with watches := S.watches ++ [[]] } : SM).words = S.words := rfl
  have e5 : ({ S with watches := S.watches ++ [[]] } : SM).short = S.short := rfl
  rw [e1, star_emp, e2, e3, e4, e5]
  simp only [List.length_append, List.length_singleton, outer, List.map_cons, List.map_nil, List.length_nil]
  simp only [show slv none 0 0 = Value.slice none 0 0 from rfl]
  ac_rfl

theorem inner_get {W : List (Option Nat × Nat × List Nat)} {i : Nat} {x : Option Nat × Nat × List Nat} (h : W[i]? = some x) : (inner W)[i]? = some (sli 3 x.1 x.2.1 (natInts x.2.2)) := by simp [inner, h]
theorem outer_get {W : List (Option Nat × Nat × List Nat)} {i : Nat} {x : Option Nat × Nat × List Nat} (h : W[i]? = some x) : (outer W)[i]? = some (slv x.1 x.2.2.length x.2.1) := by simp [outer, h]
theorem inner_set {W : List (Option Nat × Nat × List Nat)} {i : Nat} (x : Option Nat × Nat × List Nat) : inner (W.set i x) = (inner W).set i (sli 3 x.1 x.2.1 (natInts x.2.2)) := by simp [inner, List.map_set]
theorem outer_set {W : List (Option Nat × Nat × List Nat)} {i : Nat} (x : Option Nat × Nat × List Nat) : outer (W.set i x) = (outer W).set i (slv x.1 x.2.2.length x.2.1) := by simp [outer, List.map_set]
/-- The rest, one list of watches being apart. -/
def hole (p : Nat) (L : SLay) (S : SM) (i : Nat) (F : HP) : HP :=
  star (star (pt p 54 (storeCells L S)) (star (sli 3 L.wv L.wc S.words) (star (sli 3 L.bv L.bc S.begins) (star (sl L.av L.W.length L.ac 27 1 (outer L.W)) (star (sli 3 L.sv L.sc S.short) (stars ((inner L.W).eraseIdx i))))))) F
theorem StoreAt.focus {B : Nat} {w0 w : World} {p : Nat} {L : SLay} {S : SM} {F : HP} (h : StoreAt B w0 w p L S F) {i : Nat} {x : Option Nat × Nat × List Nat} (hi : L.W[i]? = some x) :
    St B w0 w (star (sli 3 x.1 x.2.1 (natInts x.2.2)) (hole p L S i F)) := by
  refine h.st.conseq ?_
  unfold storeHP hole
  rw [(stars_set_split (inner_get hi) emp).1]
  ac_rfl
theorem hole_cells {B : Nat} {w0 w : World} {p : Nat} {L : SLay} {S : SM} {F : HP} {P : HP} {i ab : Nat} (h : St B w0 w (star P (hole p L S i F))) (ha : L.av = some ab) {x : Option Nat × Nat × List Nat} (hi : L.W[i]? = some x) :
    w.cell? ⟨p, 3, none⟩ = some (.slice (some ⟨ab, 0, none⟩) L.W.length L.ac) ∧ w.cell? ⟨ab, i, none⟩ = some (slv x.1 x.2.2.length x.2.1) ∧ w.frozen? ⟨ab, i, none⟩ = false := by
  have h1 : St B w0 w (star (pt p 54 (storeCells L S)) (star P (star (star (sli 3 L.wv L.wc S.words) (star (sli 3 L.bv L.bc S.begins) (star (sl L.av L.W.length L.ac 27 1 (outer L.W)) (star (sli 3 L.sv L.sc S.short) (stars ((inner L.W).eraseIdx i)))))) F))) := h.conseq (by unfold hole; ac_rfl)
  have h2 : St B w0 w (star (sl L.av L.W.length L.ac 27 1 (outer L.W)) (star P (star (star (pt p 54 (storeCells L S)) (star (sli 3 L.wv L.wc S.words) (star (sli 3 L.bv L.bc S.begins) (star (sli 3 L.sv L.sc S.short) (stars ((inner L.W).eraseIdx i)))))) F))) := h.conseq (by unfold hole; ac_rfl)
  rw [ha] at h2
  refine ⟨by rw [h1.pt_cell 3]; simp [storeCells, slv, ha], ?_, h2.sl_free i⟩
  rw [h2.sl_cell i (by rw [outer_length]; exact (List.getElem?_eq_some_iff.1 hi).1), outer_get hi]
/-- The list of watches is laid back, its new value being stored. -/
theorem StoreAt.unfocus {B : Nat} {w0 w : World} {p : Nat} {L : SLay} {S : SM} {F : HP} {i ab : Nat} {a : Option Nat} {c : Nat} {l : List Nat} (h : St B w0 w (star (sli 3 a c (natInts l)) (hole p L S i F))) (hw : L.W.map (fun x => x.2.2) = S.watches) (ha : L.av = some ab) (hi : i < L.W.length) :
    StoreAt B w0 (w.setCell ⟨ab, i, none⟩ (slv a l.length c)) p { L with W := L.W.set i (a, c, l) } { S with watches := S.watches.set i l } F := by
  have h2 : St B w0 w (star (sl L.av L.W.length L.ac 27 1 (outer L.W)) (star (sli 3 a c (natInts l)) (star (star (pt p 54 (storeCells L S)) (star (sli 3 L.wv L.wc S.words) (star (sli 3 L.bv L.bc S.begins) (star (sli 3 L.sv L.sc S.short) (stars ((inner L.W).eraseIdx i)))))) F))) := h.conseq (by unfold hole; ac_rfl)
  rw [ha] at h2
  refine ⟨(h2.sl_set i (slv a l.length c) (by rw [outer_length]; exact hi)).conseq ?_, by simp [List.map_set, hw]⟩
  obtain ⟨x, hx⟩ : ∃ x, L.W[i]? = some x := ⟨L.W[i], by simp [hi]⟩
  unfold storeHP
  simp only [inner_set, outer_set, List.length_set]
  rw [(stars_set_split (inner_get hx) (sli 3 a c (natInts l))).2]
  have e2 : storeCells { L with W := L.W.set i (a, c, l) } { S with watches := S.watches.set i l } = storeCells L S := by simp only [storeCells, List.length_set]; rfl
  have e3 : ({ S with watches := S.watches.set i l } : SM).begins = S.begins := rfl
  have e4 : ({ S with watches := S.watches.set i l } : SM).words = S.words := rfl
  have e5 : ({ S with watches := S.watches.set i l } : SM).short = S.short := rfl
  rw [e2, e3, e4, e5, ha]
  ac_rfl

section
variable {B : Nat} {w0 w : World} {p : Nat} {L : SLay} {S : SM} {F : HP}
set_option maxRecDepth 100000 in
set_option maxHeartbeats 1000000 in
theorem watch_any (l : Int) (ref : Nat) (h : StoreAt B w0 w p L S F) (h1 : -65536 ≤ l) (h2 : l ≤ 65536) (_hr : ref ≤ 1000000) (hl : S.watches.length ≤ 1000000) (hs : ∀ x ∈ S.watches, x.length ≤ 1000000) :
    Calls Try.prog 29 #[.pointer (some ⟨p, 0, none⟩), .int .i64 l, .int .i64 ref] w fun e w' =>
      e = .returned (.tuple #[]) ∧ ∃ L', StoreAt B w0 w' p L' (S.watch l ref) F ∧ Hid (∀ j, j < L.W.length → j ≠ idx l → L'.W[j]? = L.W[j]?) := by
  have hi := idx_le h1 h2
  have HI : Hid (S.watch l ref = { S with watches := watchW S.watches (idx l) ref }) := rfl
  obtain ⟨i, hii⟩ : ∃ i, idx l = i := ⟨_, rfl⟩
  have hix := index_any l w h1 h2
  rw [hii] at hix hi
  have HII := Lib.hid hii
  clear hii
  have HIX := Lib.hid hix
  clear hix
  obtain ⟨t, ht⟩ : ∃ t, topOf i = t + 1 := ⟨topOf i - 1, by have := lt_topOf i; omega⟩
  have hor : bits .or .u64 (i : Int) 1 = (t : Int) := by
    rw [bits_or_one i (by omega)]
    unfold topOf at ht
    split at ht <;> simp_all
  have hti : i ≤ t := by have := lt_topOf i; omega
  have htb : t ≤ 131074 := by unfold topOf at ht; split at ht <;> omega
  have HT := Lib.hid ht
  clear ht
  have HS := Lib.hid hs
  clear hs
  go_enter Try.func29, Try.ntmps29
  go_wp2_with (go_at_call 41; refine (HIX.out).mono ?_; rintro e w' ⟨rfl, rfl⟩)
  go_loopg [9] (t + 1 - S.watches.length) (fun g _ wr => ∃ (k : Nat) (L1 : SLay), Hid (g = t + 1 - (S.watches.length + k)) ∧ (k = 0 ∨ S.watches.length + k ≤ t + 1) ∧ StoreAt B w0 wr p L1 { S with watches := S.watches ++ List.replicate k [] } F ∧ Hid (∀ j, j < L.W.length → L1.W[j]? = L.W[j]?))
  case atStart => exact ⟨0, L, rfl, .inl rfl, by simpa using h, (fun _ _ => rfl : ∀ j, j < L.W.length → L.W[j]? = L.W[j]?)⟩
  case round =>
    obtain ⟨k, L1, hg, hk, hst, HLK⟩ := hrel
    have hlen := hst.tlen
    rw [List.length_append, List.length_replicate] at hlen
    obtain ⟨n, hn⟩ : ∃ n, L1.W.length = n := ⟨_, rfl⟩
    have c3 := hst.tpt.pt_cell 3
    simp only [storeCells, slv, hn] at c3
    have HN := Lib.hid hn
    have HL := Lib.hid hlen
    rw [hn] at hlen
    clear hn
    by_cases hlt : n ≤ t
    · have hlt' : (n : Int) ≤ (t : Int) := by omega
      have ho := hst.touter
      rw [HN.out] at ho
      clear hlen
      go_wp2_with (at_builtin; refine wpList_append1 rfl _ _ 22 27 (.slice none 0 0) 24 rfl Try.underlying22 Try.infoInts rfl ho rfl (.slice none 0 0) rfl rfl (by omega) (by simp only [maxLen]; omega) ?_; intro b' c' w' h2; have h3 := StoreAt.push (L := L1) (S := { S with watches := S.watches ++ List.replicate k [] }) hst.ws (by rw [HN.out]; exact h2); have c4 := h3.1; have f4 := h3.2.1; have hst4 := h3.2.2; clear h3 h2)
      go_roundg (t + 1 - (S.watches.length + (k + 1)))
      case measure => have := hg.out; have := HL.out; have := HN.out; omega
      case rel =>
        refine ⟨k + 1, { L1 with av := some b', ac := c', W := L1.W ++ [(none, 0, [])] }, rfl, .inr (by have := HL.out; have := HN.out; omega), ?_, ?_⟩
        · rw [HN.out] at hst4
          rw [List.replicate_succ']
          simpa [List.append_assoc] using hst4
        · refine (fun j hj => ?_ : ∀ j, j < L.W.length → _)
          have h9 := HLK.out j hj
          rw [List.getElem?_append_left (by rw [List.getElem?_eq_getElem hj] at h9; exact (List.getElem?_eq_some_iff.1 h9).1)]
          exact h9
    · have hlt' : (t : Int) < (n : Int) := by omega
      have hnb : n ≤ 3000000 := by omega
      clear hlen
      obtain ⟨x, hx⟩ : ∃ x, L1.W[i]? = some x := ⟨L1.W[i]'(by rw [HN.out]; omega), by simp⟩
      have hin : i < n := by omega
      have hii : (i : Int) < (n : Int) := by omega
      obtain ⟨ab, hab⟩ : ∃ ab, L1.av = some ab := by
        obtain ⟨_, _, _, hnone, _⟩ := hst.touter.sat.sl_facts
        cases e : L1.av with
        | none => have := (hnone e).1; have := HN.out; omega
        | some ab => exact ⟨ab, rfl⟩
      have hfo := hst.focus hx
      have hcs := hole_cells hfo hab hx
      have hxl : x.2.2 = (S.watches ++ List.replicate k []).getD i [] := by
        have := hst.ws
        simp only at this
        rw [← this]
        simp [hx]
      have hxb : x.2.2.length ≤ 1000000 := by
        rw [hxl, List.getD_eq_getElem?_getD, List.getElem?_append]
        split
        · rename_i hh
          simp only [List.getElem?_eq_getElem hh, Option.getD_some]
          exact HS.out _ (List.getElem_mem hh)
        · rw [List.getElem?_replicate]; split <;> simp
      obtain ⟨xa, xc, xl⟩ := x
      have HW := Lib.hid hst.ws
      have HH := Lib.hid hst
      obtain ⟨m, hm⟩ : ∃ m, xl.length = m := ⟨_, rfl⟩
      have HM := Lib.hid hm
      simp only [slv, hm] at hcs hxb
      rw [HN.out] at hcs
      obtain ⟨d3, d4, d5⟩ := hcs
      clear hm c3 hst
      have hkeep : ∀ (b' c' : Nat) (w' : World), St B w0 w' (star (sli 3 (some b') c' (natInts xl ++ [(ref : Int)])) (hole p L1 { S with watches := S.watches ++ List.replicate k [] } i F)) →
          w'.cell? ⟨p, 3, none⟩ = some (.slice (some ⟨ab, 0, none⟩) n L1.ac) ∧ w'.cell? ⟨ab, i, none⟩ = some (.slice (xa.map fun b => ⟨b, 0, none⟩) m xc) ∧ w'.frozen? ⟨ab, i, none⟩ = false := by
        intro b' c' w' h2
        have := hole_cells h2 hab hx
        simp only [slv, HM.out] at this
        rw [HN.out] at this
        exact this
      have HK := Lib.hid hkeep
      have hne : p ≠ ab := by
        have h9 : St B w0 wr (star (pt p 54 (storeCells L1 { S with watches := S.watches ++ List.replicate k [] })) (star (sl (some ab) L1.W.length L1.ac 27 1 (outer L1.W)) (star (sli 3 xa xc (natInts xl)) (star (star (sli 3 L1.wv L1.wc { S with watches := S.watches ++ List.replicate k [] }.words) (star (sli 3 L1.bv L1.bc { S with watches := S.watches ++ List.replicate k [] }.begins) (star (sli 3 L1.sv L1.sc { S with watches := S.watches ++ List.replicate k [] }.short) (stars ((inner L1.W).eraseIdx i))))) F)))) := hfo.conseq (by unfold hole; rw [hab]; simp only []; ac_rfl)
        exact h9.sat.pt_sl_ne
      have hne' : ab ≠ p := Ne.symm hne
      have n1 := World.new_ne wr _ d3
      have n2 := World.new_ne wr _ d4
      have e3 : ∀ o, (wr.alloc o).cell? ⟨p, 3, none⟩ = some (.slice (some ⟨ab, 0, none⟩) n L1.ac) := fun o => (World.cell?_alloc_some _ _ _ (by rw [d3]; rfl)).trans d3
      have e4 : ∀ o, (wr.alloc o).cell? ⟨ab, i, none⟩ = some (.slice (xa.map fun b => ⟨b, 0, none⟩) m xc) := fun o => (World.cell?_alloc_some _ _ _ (by rw [d4]; rfl)).trans d4
      have z2 : ab < wr.heap.size := World.block_lt_of_cell? wr _ d4
      clear hkeep
      go_wp2
      go_region_law ((refine step_append_int (by rfl) _ _ _ _ (by rfl) Try.underlying27 Try.infoInt (hfo.drew.alloc _) m (by rw [natInts_length]; exact HM.out) (by rfl) _ (ref : Int) (by rfl) (by simp) (by omega) ?_; intro b' c' w1 h2; obtain ⟨g3, g4, g5⟩ := HK.out _ _ _ h2))
      all_goals
        go_end0
        refine ⟨rfl, { L1 with W := L1.W.set i (some b', c', xl ++ [ref]) }, ?_, ?_⟩
        rotate_left
        · refine (fun j hj hji => ?_ : ∀ j, j < L.W.length → j ≠ idx l → _)
          rw [HII.out] at hji
          rw [List.getElem?_set_ne (fun e => hji e.symm)]
          exact HLK.out j hj
        have h9 := StoreAt.unfocus (p := p) (L := L1) (S := { S with watches := S.watches ++ List.replicate k [] }) (F := F) (i := i) (ab := ab) (a := some b') (c := c') (l := xl ++ [ref]) (by rw [show natInts (xl ++ [ref]) = natInts xl ++ [(ref : Int)] from by simp [natInts]]; exact h2) HW.out hab (by rw [HN.out]; exact hin)
        have hk2 : k = t + 1 - S.watches.length := by have := HL.out; have := HN.out; omega
        rw [HI.out, HII.out]
        have hpad : padW S.watches (topOf i) = S.watches ++ List.replicate k [] := by rw [HT.out, padW, hk2]
        rw [show watchW S.watches i ref = (S.watches ++ List.replicate k []).set i (xl ++ [ref]) from by unfold watchW; rw [hpad, ← hxl]]
        have hlen1 : (xl ++ [ref]).length = m + 1 := by have := HM.out; simp; omega
        simp only [slv, hlen1, Option.map_some] at h9
        exact h9
end
end Go.Proofs.Ytmljcbdlkeooiaa

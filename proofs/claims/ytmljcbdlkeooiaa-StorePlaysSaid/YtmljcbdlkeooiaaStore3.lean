/-
  How a run lies in memory; the contracts of its small functions.
-/
import Derived.Test.YtmljcbdlkeooiaaStore2
namespace Go.Proofs.Ytmljcbdlkeooiaa
open Go.RowKit Go.Proofs.PlaitSep Go.Proofs.PlaitPure

structure RLay where
  oa : Option Nat
  oc : Nat
  vb : Nat
  vc : Nat
def runCells (p : Nat) (RL : RLay) (R : RM) : List Value := [.pointer (some ⟨p, 0, none⟩), slv RL.oa R.out.length RL.oc, slv (some RL.vb) R.value.length RL.vc, .int .i64 R.next]
def runHP (r p : Nat) (RL : RLay) (R : RM) : HP := star (pt r 64 (runCells p RL R)) (star (sli 3 RL.oa RL.oc R.out) (sli 3 (some RL.vb) RL.vc R.value))
/-- The run R lies at r, over the store S at p. -/
structure RunAt (B : Nat) (w0 w : World) (r p : Nat) (RL : RLay) (L : SLay) (R : RM) (S : SM) (F : HP) : Prop where
  st : St B w0 w (star (runHP r p RL R) (star (storeHP p L S) F))
  ws : L.W.map (fun x => x.2.2) = S.watches
section
variable {B : Nat} {w0 w : World} {r p : Nat} {RL : RLay} {L : SLay} {R : RM} {S : SM} {F : HP}
theorem RunAt.drawn {w' : World} (h : RunAt B w0 w r p RL L R S F) (d : Drawn w w') : RunAt B w0 w' r p RL L R S F := ⟨h.st.drawn d, h.ws⟩
theorem RunAt.store (h : RunAt B w0 w r p RL L R S F) : StoreAt B w0 w p L S (star (runHP r p RL R) F) := ⟨h.st.conseq (by ac_rfl), h.ws⟩
theorem StoreAt.run (h : StoreAt B w0 w p L S (star (runHP r p RL R) F)) : RunAt B w0 w r p RL L R S F := ⟨h.st.conseq (by ac_rfl), h.ws⟩
theorem RunAt.tpt (h : RunAt B w0 w r p RL L R S F) : St B w0 w (star (pt r 64 (runCells p RL R)) (star (star (sli 3 RL.oa RL.oc R.out) (sli 3 (some RL.vb) RL.vc R.value)) (star (storeHP p L S) F))) := h.st.conseq (by unfold runHP; ac_rfl)
theorem RunAt.tout (h : RunAt B w0 w r p RL L R S F) : St B w0 w (star (sli 3 RL.oa RL.oc R.out) (star (star (pt r 64 (runCells p RL R)) (sli 3 (some RL.vb) RL.vc R.value)) (star (storeHP p L S) F))) := h.st.conseq (by unfold runHP; ac_rfl)
theorem RunAt.tval (h : RunAt B w0 w r p RL L R S F) : St B w0 w (star (sli 3 (some RL.vb) RL.vc R.value) (star (star (pt r 64 (runCells p RL R)) (sli 3 RL.oa RL.oc R.out)) (star (storeHP p L S) F))) := h.st.conseq (by unfold runHP; ac_rfl)
theorem RunAt.val_at (h : RunAt B w0 w r p RL L R S F) (ho : R.ok) (i : Nat) (hi : i ≤ 65536) : w.cell? ⟨RL.vb, i, none⟩ = some (.int .i64 (gi R.value i)) := by
  have := ho.len
  rw [St.sl_cell (h := h.tval) i (by rw [ints_length]; omega), ints_get _ _ (by omega)]

set_option maxHeartbeats 400000 in
theorem is_any (l : Int) (h : RunAt B w0 w r p RL L R S F) (ho : R.ok) (h1 : -65536 ≤ l) (h2 : l ≤ 65536) :
    Calls Try.prog 38 #[.pointer (some ⟨r, 0, none⟩), .int .i64 l] w fun e w' => e = .returned (.int .i64 (R.is l)) ∧ w = w' := by
  have c2 := h.tpt.pt_cell 2
  simp only [runCells, slv, ho.len, Option.map_some] at c2
  by_cases h3 : l < 0
  · have hv := h.val_at ho (-l).toNat (by omega)
    have hb := ho.val (-l).toNat
    have HI : Hid (R.is l = - gi R.value (-l).toNat) := by unfold RM.is; rw [if_pos h3]; rfl
    obtain ⟨v, hvv⟩ : ∃ v, gi R.value (-l).toNat = v := ⟨_, rfl⟩
    have HV := Lib.hid hvv
    rw [hvv] at hv hb
    obtain ⟨hb1, hb2⟩ := hb
    clear hvv h ho
    go_enter Try.func38, Try.ntmps38
    go_wp2
    go_ret
    exact ⟨ret_int (by rw [HI.out, HV.out]), rfl⟩
  · have hv := h.val_at ho l.toNat (by omega)
    have HI : Hid (R.is l = gi R.value l.toNat) := by unfold RM.is; rw [if_neg h3]; rfl
    clear h ho
    go_enter Try.func38, Try.ntmps38
    go_wp2
    go_ret
    exact ⟨ret_int (by rw [HI.out]), rfl⟩

/-- Behind the append, ahead of the store; and behind it. -/
theorem RunAt.pushA {b' c' : Nat} {l : Int} (h : St B w0 w (star (sli 3 (some b') c' (R.out ++ [l])) (star (star (pt r 64 (runCells p RL R)) (sli 3 (some RL.vb) RL.vc R.value)) (star (storeHP p L S) F)))) :
    St B w0 w (star (pt r 64 (runCells p RL R)) (star (star (sli 3 (some b') c' (R.out ++ [l])) (sli 3 (some RL.vb) RL.vc R.value)) (star (storeHP p L S) F))) := h.conseq (by ac_rfl)
theorem RunAt.pushB {b' c' : Nat} {l : Int} (hw : L.W.map (fun x => x.2.2) = S.watches) (h : St B w0 w (star (pt r 64 ((runCells p RL R).set 1 (.slice (some ⟨b', 0, none⟩) (R.out.length + 1) c'))) (star (star (sli 3 (some b') c' (R.out ++ [l])) (sli 3 (some RL.vb) RL.vc R.value)) (star (storeHP p L S) F)))) :
    RunAt B w0 w r p { RL with oa := some b', oc := c' } L { R with out := R.out ++ [l] } S F := by
  refine ⟨h.conseq ?_, hw⟩
  unfold runHP
  have e : (runCells p RL R).set 1 (.slice (some ⟨b', 0, none⟩) (R.out.length + 1) c') = runCells p { RL with oa := some b', oc := c' } { R with out := R.out ++ [l] } := by simp [runCells, slv]
  rw [e]
  ac_rfl
theorem RunAt.valB {i : Nat} {v : Int} (hw : L.W.map (fun x => x.2.2) = S.watches) (h : St B w0 w (star (sl (some RL.vb) R.value.length RL.vc 3 1 ((ints R.value).set i (.int .i64 v))) (star (star (pt r 64 (runCells p RL R)) (sli 3 RL.oa RL.oc R.out)) (star (storeHP p L S) F)))) :
    RunAt B w0 w r p RL L { R with value := R.value.set i v } S F := by
  refine ⟨h.conseq ?_, hw⟩
  unfold runHP sli
  rw [ints_set]
  simp only [runCells, List.length_set]
  ac_rfl
theorem Try.sizeInt : (Try.prog.info? 3).map (·.size) = some 1 := by kernel_rfl
theorem Try.sizeInts : (Try.prog.info? 27).map (·.size) = some 1 := by kernel_rfl

set_option maxHeartbeats 400000 in
theorem set_run_any (l : Int) (h : RunAt B w0 w r p RL L R S F) (ho : R.ok) (h1 : -65536 ≤ l) (h2 : l ≤ 65536) (hn : R.out.length + 1 ≤ 1000000) :
    Calls Try.prog 39 #[.pointer (some ⟨r, 0, none⟩), .int .i64 l] w fun e w' => e = .returned (.tuple #[]) ∧ ∃ RL', RunAt B w0 w' r p RL' L (R.set l) S F := by
  have c1 := h.tpt.pt_cell 1
  obtain ⟨n, hnn⟩ : ∃ n, R.out.length = n := ⟨_, rfl⟩
  simp only [runCells, slv, ho.len, hnn] at c1
  have HN := Lib.hid hnn
  rw [hnn] at hn
  clear hnn
  have HS : Hid (R.set l = { R with out := R.out ++ [l], value := if l < 0 then R.value.set (-l).toNat (-1) else R.value.set l.toNat 1 }) := rfl
  have HO := Lib.hid ho
  have hout := h.tout
  have hw := Lib.hid h.ws
  clear h ho
  by_cases h3 : l < 0
  · go_enter Try.func39, Try.ntmps39
    go_wp2_with (first
      | (at_builtin; refine wpList_append_int rfl _ _ 27 3 rfl Try.underlying27 Try.infoInt hout n HN.out rfl l rfl (by omega) ?_; intro b' c' w' h4; have h5 := RunAt.pushA h4; clear h4)
      | (refine wpList_store_pt rfl 27 _ _ rfl Try.sizeInts h5 1 (.slice (some ⟨b', 0, none⟩) (n + 1) c') rfl rfl rfl (by simp [runCells]) ?_; intro w1 h6; have h7 := RunAt.pushB hw.out (by rw [HN.out]; exact h6); clear h5 h6; have h8 := h7.tpt.pt_cell 2; simp only [runCells, slv, HO.out.len, Option.map_some] at h8)
      | (refine wpList_store_sl rfl 3 _ _ rfl Try.sizeInt h7.tval (-l).toNat (.int .i64 (-1)) rfl rfl rfl (by rw [ints_length]; have := HO.out.len; simp only; omega) ?_; intro w2 h9; have h10 := RunAt.valB (R := { R with out := R.out ++ [l] }) hw.out h9))
    go_end0
    refine ⟨rfl, { RL with oa := some b', oc := c' }, ?_⟩
    rw [HS.out, if_pos h3]
    exact h10
  · go_enter Try.func39, Try.ntmps39
    go_wp2_with (first
      | (at_builtin; refine wpList_append_int rfl _ _ 27 3 rfl Try.underlying27 Try.infoInt hout n HN.out rfl l rfl (by omega) ?_; intro b' c' w' h4; have h5 := RunAt.pushA h4; clear h4)
      | (refine wpList_store_pt rfl 27 _ _ rfl Try.sizeInts h5 1 (.slice (some ⟨b', 0, none⟩) (n + 1) c') rfl rfl rfl (by simp [runCells]) ?_; intro w1 h6; have h7 := RunAt.pushB hw.out (by rw [HN.out]; exact h6); clear h5 h6; have h8 := h7.tpt.pt_cell 2; simp only [runCells, slv, HO.out.len, Option.map_some] at h8)
      | (refine wpList_store_sl rfl 3 _ _ rfl Try.sizeInt h7.tval l.toNat (.int .i64 1) rfl rfl rfl (by rw [ints_length]; have := HO.out.len; simp only; omega) ?_; intro w2 h9; have h10 := RunAt.valB (R := { R with out := R.out ++ [l] }) hw.out h9))
    go_end0
    refine ⟨rfl, { RL with oa := some b', oc := c' }, ?_⟩
    rw [HS.out, if_neg (by omega)]
    exact h10
end
end Go.Proofs.Ytmljcbdlkeooiaa

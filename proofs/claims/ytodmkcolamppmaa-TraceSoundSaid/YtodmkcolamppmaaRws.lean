/-
  Slices of slices of whole numbers that are owned (the outer element: a slice, or a struct of one slice).
-/
import Derived.Test.YtodmkcolamppmaaHelp
import Derived.Test.YtodmkcolamppmaaBytes
import Derived.Test.YtodmkcolamppmaaByteM
import Derived.Deep.Slices
namespace Go.Proofs.Ytodmkcolamppmaa
open Go.RowKit Go.Proofs.PlaitSep Go.Proofs.PlaitPure

abbrev Rws := List (Option Nat × Nat × List Int)
def rwV (W : Rws) : List Value := W.map fun x => slv x.1 x.2.2.length x.2.1
def rwH (W : Rws) : List HP := W.map fun x => sli 3 x.1 x.2.1 x.2.2
def rwsHP (e : TypeId) (a : Option Nat) (c : Nat) (W : Rws) : HP := star (sl a W.length c e 1 (rwV W)) (stars (rwH W))
theorem rwV_length (W : Rws) : (rwV W).length = W.length := by simp [rwV]
theorem rwV_append (W V : Rws) : rwV (W ++ V) = rwV W ++ rwV V := by simp [rwV]
theorem rwH_append (W V : Rws) : rwH (W ++ V) = rwH W ++ rwH V := by simp [rwH]
theorem sl_none (e : TypeId) (sz : Nat) : sl none 0 0 e sz [] = emp := by
  funext h
  apply propext
  exact ⟨fun k => k.2.2.2, fun k => ⟨by simp, rfl, rfl, k⟩⟩
theorem rwsHP_nil (e : TypeId) : rwsHP e none 0 [] = emp := by
  unfold rwsHP rwV rwH
  simp only [List.map_nil, stars_nil, List.length_nil, sl_none, star_emp]
section
variable {B : Nat} {w0 w : World} {e : TypeId} {F : HP}
theorem rws_focus {a : Option Nat} {c wl : Nat} {W : Rws} (h : St B w0 w (star (rwsHP e a c W) F)) (hw : W.length = wl) : St B w0 w (star (sl a wl c e 1 (rwV W)) (star (stars (rwH W)) F)) := by
  subst hw
  exact h.conseq (by unfold rwsHP; ac_rfl)
theorem rws_push {b' c' wl : Nat} {W : Rws} {ka : Option Nat} {kc : Nat} {l : List Int} (hw : W.length = wl) (h : St B w0 w (star (sl (some b') (wl + 1) c' e 1 (rwV W ++ [.slice (ka.map fun b => ⟨b, 0, none⟩) l.length kc])) (star (sli 3 ka kc l) (star (stars (rwH W)) F)))) :
    St B w0 w (star (rwsHP e (some b') c' (W ++ [(ka, kc, l)])) F) := by
  subst hw
  refine h.conseq ?_
  unfold rwsHP
  rw [rwV_append, rwH_append, stars_append, List.length_append]
  simp only [rwV, rwH, List.map_cons, List.map_nil, stars_one, List.length_cons, List.length_nil, slv]
  ac_rfl
theorem rws_rd {a : Option Nat} {c : Nat} {W : Rws} (h : St B w0 w (star (rwsHP e a c W) F)) (hl : ∀ x ∈ W, x.2.2.length ≤ 140737488355328) (hn : W.length ≤ 140737488355328) :
    Rd2 w (a.map fun b => ⟨b, 0, none⟩) W.length (W.map fun x => x.2.2) := by
  have h1 := rws_focus h rfl
  refine ⟨by simp, hn, fun hp => ?_⟩
  obtain ⟨_, _, _, hnone, _⟩ := h1.sat.sl_facts
  cases a with
  | none => have := (hnone rfl).1; omega
  | some b =>
    refine ⟨b, 0, rfl, fun j hj => ?_⟩
    obtain ⟨x, hx⟩ : ∃ x, W[j]? = some x := ⟨W[j], by simp [hj]⟩
    have hg : gl (W.map fun x => x.2.2) j = x.2.2 := by simp [gl, List.getD_eq_getElem?_getD, hx]
    refine ⟨x.1.map fun b => ⟨b, 0, none⟩, x.2.1, ?_, ?_⟩
    · rw [Nat.zero_add, St.sl_cell (h := h1) j (by rw [rwV_length]; exact hj), hg]
      simp [rwV, hx, slv]
    · rw [hg]
      have hr : (rwH W)[j]? = some (sli 3 x.1 x.2.1 x.2.2) := by simp [rwH, hx]
      have h2 : St B w0 w (star (sli 3 x.1 x.2.1 x.2.2) (star (sl (some b) W.length c e 1 (rwV W)) (star (stars ((rwH W).eraseIdx j)) F))) := h1.conseq (by rw [(stars_set_split hr emp).1]; ac_rfl)
      exact St.rd h2 (hl x (List.mem_of_getElem? hx))
end
/-- Each slice that lies there has its room. -/
def Caps (w : World) (A : Option Addr) (n : Nat) : Prop := ∀ b o j, A = some ⟨b, o, none⟩ → j < n → ∀ Aj l c, w.cell? ⟨b, o + j, none⟩ = some (.slice Aj l c) → l ≤ c
theorem Caps.grow {w w' : World} {A : Option Addr} {n : Nat} {xss : List (List Int)} (h : Caps w A n) (hr : Rd2 w A n xss) (hb : Below w.heap.size w w') : Caps w' A n := by
  intro b o j hA hj Aj l c hc
  obtain ⟨b2, o2, e, hcell⟩ := hr.cells (by omega)
  rw [hA] at e
  obtain ⟨rfl, rfl⟩ : b = b2 ∧ o = o2 := by simpa using e
  obtain ⟨A2, c2, h2, _⟩ := hcell j hj
  rw [hb.cell (World.block_lt_of_cell? w _ h2)] at hc
  exact h b o j hA hj Aj l c hc
theorem rws_caps {B : Nat} {w0 w : World} {e : TypeId} {F : HP} {a : Option Nat} {c n : Nat} {W : Rws} (h : St B w0 w (star (rwsHP e a c W) F)) (hn : W.length = n) : Caps w (a.map fun b => ⟨b, 0, none⟩) n := by
  subst hn
  intro b o j hA hj Aj l cc hc
  have h1 := rws_focus h rfl
  cases a with
  | none => cases hA
  | some b =>
    simp only [Option.map_some, Option.some.injEq, Addr.mk.injEq, and_true] at hA
    obtain ⟨rfl, rfl⟩ := hA
    obtain ⟨x, hx⟩ : ∃ x, W[j]? = some x := ⟨W[j], by simp [hj]⟩
    rw [Nat.zero_add, St.sl_cell (h := h1) j (by rw [rwV_length]; exact hj)] at hc
    simp only [rwV, List.getElem?_map, hx, Option.map_some, slv, Option.some.injEq, Value.slice.injEq] at hc
    obtain ⟨_, rfl, rfl⟩ := hc
    have hr : (rwH W)[j]? = some (sli 3 x.1 x.2.1 x.2.2) := by simp [rwH, hx]
    have h2 : St B w0 w (star (sli 3 x.1 x.2.1 x.2.2) (star (sl (some b) W.length c e 1 (rwV W)) (star (stars ((rwH W).eraseIdx j)) F))) := h1.conseq (by rw [(stars_set_split hr emp).1]; ac_rfl)
    unfold sli at h2
    exact h2.sat.sl_facts.2.1
theorem St.none (w : World) (e : TypeId) : St w.heap.size w w (star (sl none 0 0 e 1 []) emp) := ⟨Below.refl _ _, Nat.le_refl _, (St.start w).sat.sl_nil _ _⟩
theorem Try.infoRow : (Try.prog.info? 51).map (fun i => (i.zero, i.size, i.bytes)) = some (some (.slice none 0 0), 1, 24) := by kernel_rfl
theorem Try.infoByte : (Try.prog.info? 5).map (fun i => (i.zero, i.size, i.bytes)) = some (some (.int .u8 0), 1, 1) := by kernel_rfl
theorem Try.infoStep : (Try.prog.info? 57).map (fun i => (i.zero, i.size, i.bytes)) = some (some (.agg #[.slice none 0 0]), 1, 24) := by kernel_rfl
/-- Where the rows of a slice that came in lie. -/
theorem rd2_choose {w : World} {A : Option Addr} {n : Nat} {xss : List (List Int)} (h : Rd2 w A n xss) :
    ∃ f : Nat → Option Addr × Nat, ∀ j, j < n → Rd w (f j).1 (gl xss j).length (gl xss j) ∧ ∀ b o, A = some ⟨b, o, none⟩ → w.cell? ⟨b, o + j, none⟩ = some (.slice (f j).1 (gl xss j).length (f j).2) := by
  refine Go.Deep.choose_lt (p := fun j (y : Option Addr × Nat) => Rd w y.1 (gl xss j).length (gl xss j) ∧ ∀ b o, A = some ⟨b, o, none⟩ → w.cell? ⟨b, o + j, none⟩ = some (.slice y.1 (gl xss j).length y.2)) fun j hj => ?_
  obtain ⟨b, o, rfl, hc⟩ := h.cells (by omega)
  obtain ⟨Aj, cj, h1, h2⟩ := hc j hj
  refine ⟨(Aj, cj), h2, fun b' o' e => ?_⟩
  obtain ⟨rfl, rfl⟩ : b = b' ∧ o = o' := by simpa using e
  exact h1
theorem quietW {P : Program} {f : FuncId} {args : Array Value} {w : World} {n : Nat} {v : Value} (c : ∀ k, Calls P f args (w.drewN k) fun e w' => e = .returned v ∧ ∃ m, w' = w.drewN m) :
    Calls P f args (w.drewN n) fun e w'' => e = .returned v ∧ ∃ m, w'' = w.drewN m := c n
end Go.Proofs.Ytodmkcolamppmaa

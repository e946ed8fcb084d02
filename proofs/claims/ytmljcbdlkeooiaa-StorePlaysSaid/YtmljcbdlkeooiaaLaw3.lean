/-
  A list of slices of whole numbers that is owned; the store that a law makes.
-/
import Derived.Test.YtmljcbdlkeooiaaLaw2
namespace Go.Proofs.Ytmljcbdlkeooiaa
open Go.RowKit Go.Proofs.PlaitSep Go.Proofs.PlaitPure

abbrev Rows := List (Option Nat × Nat × List Int)
def rowV (W : Rows) : List Value := W.map fun x => slv x.1 x.2.2.length x.2.1
def rowH (W : Rows) : List HP := W.map fun x => sli 3 x.1 x.2.1 x.2.2
def rowsHP (a : Option Nat) (c : Nat) (W : Rows) : HP := star (sl a W.length c 27 1 (rowV W)) (stars (rowH W))
theorem rowV_length (W : Rows) : (rowV W).length = W.length := by simp [rowV]
theorem rowV_append (W V : Rows) : rowV (W ++ V) = rowV W ++ rowV V := by simp [rowV]
theorem rowH_append (W V : Rows) : rowH (W ++ V) = rowH W ++ rowH V := by simp [rowH]
theorem sl_nil (e : TypeId) (sz : Nat) : sl none 0 0 e sz [] = emp := by
  funext h
  apply propext
  exact ⟨fun k => k.2.2.2, fun k => ⟨by simp, rfl, rfl, k⟩⟩
theorem rowsHP_nil : rowsHP none 0 [] = emp := by
  unfold rowsHP rowV rowH
  simp only [List.map_nil, stars_nil, List.length_nil, sl_nil, star_emp]
theorem rowsHP_push {b' : Option Nat} {c' : Nat} {W : Rows} {x : Option Nat × Nat × List Int} : star (sl b' (W.length + 1) c' 27 1 (rowV W ++ [slv x.1 x.2.2.length x.2.1])) (star (sli 3 x.1 x.2.1 x.2.2) (stars (rowH W))) = rowsHP b' c' (W ++ [x]) := by
  unfold rowsHP
  rw [rowV_append, rowH_append, stars_append, List.length_append]
  simp only [rowV, rowH, List.map_cons, List.map_nil, stars_one, List.length_cons, List.length_nil]
  ac_rfl
section
variable {B : Nat} {w0 w : World} {p : Nat} {L : SLay} {S : SM} {K : HP}
theorem rows_focus {a : Option Nat} {c wl : Nat} {W : Rows} (h : StoreAt B w0 w p L S (star K (rowsHP a c W))) (hw : W.length = wl) : St B w0 w (star (sl a wl c 27 1 (rowV W)) (star (storeHP p L S) (star K (stars (rowH W))))) := by
  subst hw
  exact h.st.conseq (by unfold rowsHP; ac_rfl)
theorem rows_push {b' c' wl : Nat} {W : Rows} {ka : Option Nat} {kc : Nat} {l : List Int} (hw : W.length = wl) (hws : L.W.map (fun x => x.2.2) = S.watches) (h : St B w0 w (star (sl (some b') (wl + 1) c' 27 1 (rowV W ++ [.slice (ka.map fun b => ⟨b, 0, none⟩) l.length kc])) (star (storeHP p L S) (star (sli 3 ka kc l) (stars (rowH W)))))) :
    StoreAt B w0 w p L S (rowsHP (some b') c' (W ++ [(ka, kc, l)])) := by
  subst hw
  refine ⟨h.conseq ?_, hws⟩
  rw [← rowsHP_push]
  simp only [slv]
  ac_rfl
end
/-- The store that a law makes. -/
def madeS (xss : List (List Int)) : SM := xss.foldl (fun S xs => (addF S xs).1) (SM.new 262144)
theorem madeS_inv (xss : List (List Int)) : (madeS xss).Inv := by
  unfold madeS
  suffices h : ∀ (l : List (List Int)) (S : SM), S.Inv → (l.foldl (fun S xs => (addF S xs).1) S).Inv from h xss _ (SM.new_inv _)
  intro l
  induction l with
  | nil => intro S h; exact h
  | cons x l ih => intro S h; exact ih _ (h.add x)
theorem addS_C (S : SM) (l : List Int) : (S.addS l).C = S.C ++ [l] := by
  unfold SM.addS
  split
  · simp [SM.C, SM.addC]
  · show (S.addC l).C = _
    simp [SM.C, SM.addC]
theorem addF_C (S : SM) (xs : List Int) : (addF S xs).1.C = if (addF S xs).2.2 = 0 then S.C ++ [onceL xs] else S.C := by
  unfold addF
  split
  · rename_i h; first | rfl | exact (if_neg h).symm
  · split
    · first | rfl | exact (if_neg (by simp)).symm
    · first | exact addS_C S _ | exact (addS_C S _).trans (if_pos rfl).symm
theorem addF_zero {S : SM} {xs : List Int} (h : (addF S xs).2.2 = 0) : onceE xs = 0 := by
  unfold addF at h
  split at h
  · rename_i h1; exact absurd h h1
  · rename_i h1; simpa using h1
theorem made_snoc {xss : List (List Int)} {j : Nat} (h : j < xss.length) : madeS (xss.take (j + 1)) = (addF (madeS (xss.take j)) (gl xss j)).1 := by
  unfold madeS
  rw [List.take_add_one, List.foldl_append]
  simp [gl, List.getD_eq_getElem?_getD, h]
/-- What made hands back. -/
def MadePost (H : Nat) (w : World) (xss : List (List Int)) (e : Ending) (w' : World) : Prop :=
  ∃ p L a c W, e = .returned (.tuple #[.pointer (some ⟨p, 0, none⟩), slv a W.length c]) ∧ StoreAt H w w' p L (madeS xss) (rowsHP a c W) ∧ W.map (fun x => x.2.2) = (madeS xss).C
set_option maxRecDepth 100000 in
set_option maxHeartbeats 2000000 in
theorem made_any (A : Option Addr) (n cap : Nat) (xss : List (List Int)) (w : World) (hr : Rd2 w A n xss) (hn : n ≤ 1000000) (hs : ∀ j, j < n → (gl xss j).length ≤ 1000000) :
    Calls Try.prog 22 #[.slice A n cap] w (MadePost w.heap.size w xss) := by
  have HR := Lib.hid hr
  have HSM := Lib.hid hs
  clear hr hs
  go_enter Try.func22, Try.ntmps22
  go_wp2_with (go_at_call 11; refine (New_any 262144 w).mono ?_; rintro e w1 ⟨p, L0, rfl, h0⟩; have H0 := Lib.hid h0; clear h0)
  go_loopw [5, 6] (fun v5 v6 wr => ∃ (j : Nat) (L : SLay) (a : Option Nat) (c : Nat) (W : Rows), j ≤ n ∧ W.length ≤ j ∧ v6 = .int .i64 j ∧ v5 = slv a W.length c ∧ Hid (StoreAt w.heap.size w wr p L (madeS (xss.take j)) (rowsHP a c W)) ∧ Hid (W.map (fun x => x.2.2) = (madeS (xss.take j)).C)) (fun _ v6 _ => n - (intOf v6).toNat)
  case atStart => exact ⟨0, L0, none, 0, [], Nat.zero_le _, Nat.le_refl _, rfl, rfl, (by rw [rowsHP_nil]; exact H0.out : StoreAt w.heap.size w w1 p L0 (madeS []) (rowsHP none 0 [])), (rfl : _ = (madeS []).C)⟩
  case round =>
    obtain ⟨j, L, a, c, W, hj, hwj, rfl, rfl, HST, HC⟩ := hrel
    obtain ⟨wl, hwl⟩ : ∃ wl, W.length = wl := ⟨_, rfl⟩
    have HWL := Lib.hid hwl
    rw [hwl] at hwj ⊢
    clear hwl
    by_cases hjn : j < n
    · obtain ⟨ab, ao, rfl, hc⟩ := HR.out.cells (by omega)
      obtain ⟨Aj, cj, d0, hrj0⟩ := hc j hjn
      have hlt0 := World.block_lt_of_cell? w _ d0
      clear hc
      obtain ⟨xs, hxs⟩ : ∃ xs, gl xss j = xs := ⟨_, rfl⟩
      have hsm := HSM.out j hjn
      have hmade := made_snoc (xss := xss) (j := j) (by have := HR.out.len; omega)
      obtain ⟨ln, hln⟩ : ∃ ln, xs.length = ln := ⟨_, rfl⟩
      rw [hxs] at d0 hrj0 hsm hmade
      rw [hln] at d0 hrj0 hsm
      have d1 := (HST.out.st.below.cell hlt0).trans d0
      have hrj := hrj0.grow HST.out.st.below
      have hadd := Add_any Aj ln cj xs HST.out (madeS_inv _) hrj hsm
      obtain ⟨res, hres⟩ : ∃ res, addF (madeS (xss.take j)) xs = res := ⟨_, rfl⟩
      have hCC := addF_C (madeS (xss.take j)) xs
      have hz := addF_zero (S := madeS (xss.take j)) (xs := xs)
      rw [hres] at hadd hCC hz hmade
      obtain ⟨S', ref, er⟩ := res
      simp only at hCC hz hmade
      have HADD := Lib.hid hadd
      have HMADE := Lib.hid hmade
      have HCC := Lib.hid hCC
      have HZ := Lib.hid hz
      have HRJ := Lib.hid hrj0
      have HD := Lib.hid (show ∀ w' : World, Below w.heap.size w w' → w'.cell? ⟨ab, ao + j, none⟩ = some (.slice Aj ln cj) from fun w' hb => (hb.cell hlt0).trans d0)
      clear hxs hmade hln hadd hres hCC hz hrj hrj0 d0 hlt0
      by_cases her : er = 0
      · subst her
        unfold slv
        go_wp2_with (first
          | (go_at_call 13; refine (HADD.out).mono ?_; rintro e w2 ⟨rfl, L2, h2⟩; have H2 := Lib.hid h2; have d2 := HD.out _ h2.st.below; have hk := kept_any Aj ln cj xs w2 (HRJ.out.grow h2.st.below) hsm; have HK := Lib.hid hk; clear h2 hk)
          | (go_at_call 14; refine (HK.out).mono ?_; rintro e w3 ⟨hgood, _⟩; obtain ⟨ka, kc, rfl, k3⟩ := hgood (HZ.out (by simp)); have h3 : StoreAt w.heap.size w w3 p L2 S' (star (sli 3 ka kc (onceL xs)) (rowsHP a c W)) := ⟨(H2.out.st.nest k3).conseq (by ac_rfl), H2.out.ws⟩; have H3 := Lib.hid h3; clear k3 hgood h3; have ho := rows_focus H3.out HWL.out; have HOO := Lib.hid ho; clear ho; unfold slv)
          | (at_builtin; refine wpList_append1 rfl _ _ 22 27 (.slice none 0 0) 24 rfl Try.underlying22 Try.infoInts rfl HOO.out rfl (.slice (ka.map fun b => ⟨b, 0, none⟩) (onceL xs).length kc) rfl rfl (by omega) (by simp only [maxLen]; omega) ?_; intro b' c' w4 h4; have h5 := rows_push HWL.out H3.out.ws h4; have H5 := Lib.hid h5; clear h4 h5))
        go_roundw
        case rel =>
          refine ⟨j + 1, L2, some b', c', W ++ [(ka, kc, onceL xs)], by omega, by rw [List.length_append, HWL.out]; simp; omega, by go_num, by rw [List.length_append, HWL.out]; rfl, ?_, ?_⟩
          · exact (HMADE.out ▸ H5.out : StoreAt w.heap.size w w4 p L2 (madeS (xss.take (j + 1))) (rowsHP (some b') c' (W ++ [(ka, kc, onceL xs)])))
          · refine (?_ : (W ++ [(ka, kc, onceL xs)]).map (fun x => x.2.2) = (madeS (xss.take (j + 1))).C)
            rw [HMADE.out, HCC.out, if_pos trivial, List.map_append, HC.out]
            rfl
        case measure => simp [intOf]; omega
      · have her' : (er == 0) = false := by simpa using her
        unfold slv
        go_wp2_with (go_at_call 13; refine (HADD.out).mono ?_; rintro e w2 ⟨rfl, L2, h2⟩; have H2 := Lib.hid h2; clear h2)
        go_roundw
        case rel =>
          refine ⟨j + 1, L2, a, c, W, by omega, by rw [HWL.out]; omega, by go_num, by rw [HWL.out], ?_, ?_⟩
          · exact (HMADE.out ▸ H2.out : StoreAt w.heap.size w w2 p L2 (madeS (xss.take (j + 1))) (rowsHP a c W))
          · refine (?_ : W.map (fun x => x.2.2) = (madeS (xss.take (j + 1))).C)
            rw [HMADE.out, HCC.out, if_neg her, HC.out]
        case measure => simp [intOf]; omega
    · obtain rfl : j = n := by omega
      have hx : xss.take j = xss := by rw [← HR.out.len, List.take_length]
      have hst := HST.out
      have hcc := HC.out
      rw [hx] at hst hcc
      have HST2 := Lib.hid hst
      have HC2 := Lib.hid hcc
      clear hx hst hcc
      unfold slv
      go_wp2
      go_ret2
      refine ⟨p, L, a, c, W, ?_, HST2.out, HC2.out⟩
      rw [HWL.out]; rfl
end Go.Proofs.Ytmljcbdlkeooiaa

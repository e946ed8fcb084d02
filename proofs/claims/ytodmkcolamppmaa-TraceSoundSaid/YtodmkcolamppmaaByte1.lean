/-
  The contracts of trace's put and take, and of plaitref12's put and number.
-/
import Derived.Test.YtodmkcolamppmaaHelp3
import Derived.Laws.BitsLemmas
namespace Go.Proofs.Ytodmkcolamppmaa
open Go.RowKit Go.Proofs.PlaitSep Go.Proofs.PlaitPure

theorem put_take (n : Int) {k : Nat} (h : k < 4) : (putF n).take (k + 1) = (putF n).take k ++ [n / 2 ^ (24 - 8 * k) % 256] := by
  obtain rfl | rfl | rfl | rfl : k = 0 ∨ k = 1 ∨ k = 2 ∨ k = 3 := by omega
  · rfl
  · rfl
  · rfl
  · simp [putF]
set_option maxHeartbeats 1000000 in
theorem put_any {B : Nat} {w0 w : World} {F : HP} (a : Option Nat) (c : Nat) (xs : List Int) (n : Int) (h : St B w0 w (star (slb 5 a c xs) F)) (hx : xs.length ≤ 100000000) (_h0 : 0 ≤ n) (_h1 : n ≤ 4294967295) :
    Calls Try.prog 36 #[slv a xs.length c, .int .i64 n] w fun e w' => ∃ a' c', e = .returned (slv a' (xs.length + 4) c') ∧ St B w0 w' (star (slb 5 a' c' (xs ++ putF n)) F) := by
  obtain ⟨l, hl⟩ : ∃ l, xs.length = l := ⟨_, rfl⟩
  have HL := Lib.hid hl
  have H := Lib.hid h
  rw [hl] at hx ⊢
  clear h hl
  go_enter Try.func36, Try.ntmps36
  unfold slv
  go_wp2
  go_loopw [0, 6] (fun v0 v6 wr => ∃ (k : Nat) (a' : Option Nat) (c' : Nat), k ≤ 4 ∧ v6 = .int .i64 k ∧ v0 = .slice (a'.map fun b => ⟨b, 0, none⟩) (l + k) c' ∧ Hid (St B w0 wr (star (slb 5 a' c' (xs ++ (putF n).take k)) F))) (fun _ v6 _ => 4 - (intOf v6).toNat)
  case atStart => exact ⟨0, a, c, Nat.zero_le _, rfl, rfl, (by rw [List.take_zero, List.append_nil]; exact H.out : St B w0 w (star (slb 5 a c (xs ++ (putF n).take 0)) F))⟩
  case round =>
    obtain ⟨k, a', c', hk, rfl, rfl, HS⟩ := hrel
    by_cases hk4 : k < 4
    · have hlen : (xs ++ (putF n).take k).length = l + k := by rw [List.length_append, HL.out, List.length_take, putF_length]; omega
      have HLEN := Lib.hid hlen
      have htk := put_take n hk4
      have HTK := Lib.hid htk
      have hk5 : (k : Int) < 4 := by omega
      clear hlen htk
      go_wp2_with (at_builtin; refine wpList_append_byte rfl _ _ 23 5 rfl Try.underlying23 Try.infoByte HS.out (l + k) HLEN.out rfl (n / 2 ^ (24 - 8 * k) % 256) rfl (by omega) ?_; intro b' c2 w4 h4; have H4 := Lib.hid h4; clear h4)
      go_roundw
      case rel =>
        refine ⟨k + 1, some b', c2, by omega, by go_num, rfl, (?_ : St B w0 w4 (star (slb 5 (some b') c2 (xs ++ (putF n).take (k + 1))) F))⟩
        rw [HTK.out, ← List.append_assoc]
        exact H4.out
      case measure => simp [intOf]; omega
    · obtain rfl : k = 4 := by omega
      go_wp2
      go_ret
      exact ⟨a', c', rfl, HS.out⟩
theorem RdB.newFour (w : World) (x y z u : Int) (e : TypeId) : RdB (w.alloc (.cells #[.int .u8 x, .int .u8 y, .int .u8 z, .int .u8 u] e)) (some ⟨w.heap.size, 0, none⟩) 4 [x, y, z, u] :=
  ⟨rfl, by omega, fun _ => ⟨w.heap.size, 0, rfl, fun j hj => by
    rw [cell_of_row _ _ _ _ _ _ (heap_alloc_new w _)]
    obtain rfl | rfl | rfl | rfl : j = 0 ∨ j = 1 ∨ j = 2 ∨ j = 3 := by omega
    all_goals rfl⟩⟩
theorem putF_small {n : Int} (h0 : 0 ≤ n) (h1 : n ≤ 4294967295) : putF n = [n / 16777216, n / 65536 % 256, n / 256 % 256, n % 256] := by
  unfold putF
  congr 1
  omega
set_option maxHeartbeats 1000000 in
theorem rput_any {B : Nat} {w0 w : World} {F : HP} (a : Option Nat) (c : Nat) (xs : List Int) (n : Int) (h : St B w0 w (star (slb 5 a c xs) F)) (hx : xs.length ≤ 100000000) (h0 : 0 ≤ n) (h1 : n ≤ 4294967295) :
    Calls Try.prog 37 #[slv a xs.length c, .int .i64 n] w fun e w' => ∃ a' c', e = .returned (slv a' (xs.length + 4) c') ∧ St B w0 w' (star (slb 5 a' c' (xs ++ putF n)) F) := by
  obtain ⟨l, hl⟩ : ∃ l, xs.length = l := ⟨_, rfl⟩
  have HL := Lib.hid hl
  have H := Lib.hid h
  rw [hl] at hx ⊢
  clear h hl
  go_enter Try.func37, Try.ntmps37
  unfold slv
  have HP := Lib.hid (putF_small h0 h1)
  go_wp2_with (at_builtin; refine wpList_append_rdB rfl _ _ 23 5 rfl Try.underlying23 Try.infoByte (St.alloc H.out _) l HL.out _ 4 4 _ (RdB.newFour _ _ _ _ _ _) rfl rfl (by omega) ?_; intro a' c' w4 h4; have H4 := Lib.hid h4; clear h4)
  go_ret
  exact ⟨a', c', rfl, by rw [HP.out]; exact H4.out⟩
theorem wraps_i64 (n : Int) (h₀ : 0 ≤ n) (h₁ : n < 2 ^ 40) : IntKind.i64.wrap n = n := IntWalk.i64_in _ (by omega)
theorem or8 {x y : Int} (h0 : 0 ≤ x) (h1 : x < 1099511627776) (h2 : x % 256 = 0) (h3 : 0 ≤ y) (h4 : y < 256) : bits .or .i64 x y = x + y := bits_join .i64 40 (by decide) wraps_i64 8 x y h0 h2 h1 h3 h4 (by omega)
theorem or16 {x y : Int} (h0 : 0 ≤ x) (h1 : x < 1099511627776) (h2 : x % 65536 = 0) (h3 : 0 ≤ y) (h4 : y < 65536) : bits .or .i64 x y = x + y := bits_join .i64 40 (by decide) wraps_i64 16 x y h0 h2 h1 h3 h4 (by omega)
theorem or24 {x y : Int} (h0 : 0 ≤ x) (h1 : x < 1099511627776) (h2 : x % 16777216 = 0) (h3 : 0 ≤ y) (h4 : y < 16777216) : bits .or .i64 x y = x + y := bits_join .i64 40 (by decide) wraps_i64 24 x y h0 h2 h1 h3 h4 (by omega)
theorem RdB.drop4 {w : World} {A : Option Addr} {n : Nat} {x y z u : Int} {r : List Int} {b o : Nat} (h : RdB w A n (x :: y :: z :: u :: r)) (hA : A = some ⟨b, o, none⟩) : RdB w (some ⟨b, o + 4, none⟩) (n - 4) r := by
  have hl := h.len
  simp only [List.length_cons] at hl
  refine ⟨by omega, by have := h.small; omega, fun hp => ⟨b, o + 4, rfl, fun j hj => ?_⟩⟩
  obtain ⟨b', o', e, hc⟩ := h.cells (by omega)
  rw [hA] at e
  obtain ⟨rfl, rfl⟩ : b = b' ∧ o = o' := by simpa using e
  have := hc (j + 4) (by omega)
  rw [show o + 4 + j = o + (j + 4) by omega, this]
  simp [gi]
theorem RdB.none {w : World} {A : Option Addr} : RdB w A 0 [] := ⟨rfl, by omega, fun h => absurd h (by omega)⟩
set_option maxHeartbeats 1000000 in
theorem take_any (A : Option Addr) (n c : Nat) (b : List Int) (w : World) (hr : RdB w A n b) (hb : IsBytes b) (hc : n ≤ c) (_hcm : c ≤ 9223372036854775807) :
    Calls Try.prog 38 #[.slice A n c] w fun e w' => (takeF b = none → e = .returned (.tuple #[.int .i64 0, .slice A n c, .bool false]) ∧ Drawn w w') ∧
      ∀ x r, takeF b = some (x, r) → ∃ A' c', e = .returned (.tuple #[.int .i64 x, .slice A' (n - 4) c', .bool true]) ∧ Drawn w w' ∧ (∀ U, RdB U A n b → RdB U A' (n - 4) r) ∧ n - 4 ≤ c' ∧ c' ≤ c := by
  have hs := hr.small
  have HR := Lib.hid hr
  have hl := hr.len
  by_cases h4 : n < 4
  · have hd : decide ((n : Int) < 4) = true := by simp; omega
    have ht : takeF b = none := by
      match b, hl with
      | [], _ => rfl
      | [_], _ => rfl
      | [_, _], _ => rfl
      | [_, _, _], _ => rfl
      | _ :: _ :: _ :: _ :: _, hl => simp at hl; omega
    have HT := Lib.hid ht
    clear hr hl ht
    go_enter Try.func38, Try.ntmps38
    go_wp2
    go_ret3
    exact ⟨fun _ => ⟨rfl, Drawn.refl _⟩, fun x r h => by rw [HT.out] at h; cases h⟩
  · obtain ⟨x, y, z, u, r, rfl⟩ : ∃ x y z u r, b = x :: y :: z :: u :: r := by
      match b, hl with
      | x :: y :: z :: u :: r, _ => exact ⟨x, y, z, u, r, rfl⟩
      | [], hl => simp at hl; omega
      | [_], hl => simp at hl; omega
      | [_, _], hl => simp at hl; omega
      | [_, _, _], hl => simp at hl; omega
    obtain ⟨ab, ao, rfl, hcell⟩ := hr.cells (by omega)
    have d0 : w.cell? ⟨ab, ao, none⟩ = some (.int .u8 x) := hcell 0 (by omega)
    have d1 : w.cell? ⟨ab, ao + 1, none⟩ = some (.int .u8 y) := hcell 1 (by omega)
    have d2 : w.cell? ⟨ab, ao + 2, none⟩ = some (.int .u8 z) := hcell 2 (by omega)
    have d3 : w.cell? ⟨ab, ao + 3, none⟩ = some (.int .u8 u) := hcell 3 (by omega)
    have hd : decide ((n : Int) < 4) = false := by simp; omega
    obtain ⟨x0, x1⟩ := hb x (by simp)
    obtain ⟨y0, y1⟩ := hb y (by simp)
    obtain ⟨z0, z1⟩ := hb z (by simp)
    obtain ⟨u0, u1⟩ := hb u (by simp)
    have h04 : (4 : Int) ≤ (n : Int) := by omega
    have h4c : (4 : Int) ≤ (c : Int) := by omega
    clear hr hl hcell hb
    by_cases hx : 127 < x
    · have hd2 : decide (127 < x) = true := by simpa using hx
      have ht : takeF (x :: y :: z :: u :: r) = none := by show (if x ≤ 127 then _ else _) = _; rw [if_neg (by omega)]
      have HT := Lib.hid ht
      clear ht
      go_enter Try.func38, Try.ntmps38
      go_wp2
      go_ret3
      exact ⟨fun _ => ⟨rfl, Drawn.refl _⟩, fun x r h => by rw [HT.out] at h; cases h⟩
    · have hd2 : decide (127 < x) = false := by simpa using hx
      have ht : takeF (x :: y :: z :: u :: r) = some (numF x y z u, r) := by show (if x ≤ 127 then _ else _) = _; rw [if_pos (by omega)]
      have HT := Lib.hid ht
      clear ht
      go_enter Try.func38, Try.ntmps38
      go_wp2
      go_loop [5, 21] (fun v5 v21 => (v21 = .int .i64 0 ∧ v5 = .int .i64 0) ∨ (v21 = .int .i64 1 ∧ v5 = .int .i64 x) ∨ (v21 = .int .i64 2 ∧ v5 = .int .i64 (x * 256 + y)) ∨ (v21 = .int .i64 3 ∧ v5 = .int .i64 ((x * 256 + y) * 256 + z)) ∨ (v21 = .int .i64 4 ∧ v5 = .int .i64 (((x * 256 + y) * 256 + z) * 256 + u))) (fun _ v21 => 4 - (intOf v21).toNat)
      case atStart => exact .inl ⟨rfl, rfl⟩
      case round =>
        rcases hrel with ⟨rfl, rfl⟩ | ⟨rfl, rfl⟩ | ⟨rfl, rfl⟩ | ⟨rfl, rfl⟩ | ⟨rfl, rfl⟩
        · have e := or8 (x := 0) (y := x) (by omega) (by omega) (by omega) x0 (by omega)
          rw [Int.zero_add] at e
          go_wp2
          go_round
          case rel => exact .inr (.inl ⟨rfl, rfl⟩)
          case measure => simp [intOf]
        · have e := or8 (x := x * 256) (y := y) (by omega) (by omega) (by omega) y0 (by omega)
          go_wp2
          go_round
          case rel => exact .inr (.inr (.inl ⟨rfl, rfl⟩))
          case measure => simp [intOf]
        · have e := or8 (x := (x * 256 + y) * 256) (y := z) (by omega) (by omega) (by omega) z0 (by omega)
          go_wp2
          go_round
          case rel => exact .inr (.inr (.inr (.inl ⟨rfl, rfl⟩)))
          case measure => simp [intOf]
        · have e := or8 (x := ((x * 256 + y) * 256 + z) * 256) (y := u) (by omega) (by omega) (by omega) u0 (by omega)
          go_wp2
          go_round
          case rel => exact .inr (.inr (.inr (.inr ⟨rfl, rfl⟩)))
          case measure => simp [intOf]
        · have hnum : ((x * 256 + y) * 256 + z) * 256 + u = numF x y z u := by unfold numF; omega
          have HNUM := Lib.hid hnum
          obtain ⟨v, hv⟩ : ∃ v, ((x * 256 + y) * 256 + z) * 256 + u = v := ⟨_, rfl⟩
          rw [hv] at HNUM ⊢
          clear hnum hv
          by_cases hc4 : c = 4
          · have hn4 : n = 4 := by omega
            subst hc4
            subst hn4
            have hr0 : r = [] := by have := HR.out.len; simp at this; exact this
            go_wp2
            go_quiet (fail)
            go_wp2
            go_ret3
            refine ⟨(fun h => by rw [HT.out] at h; cases h), fun x' r' h => ?_⟩
            rw [HT.out] at h
            cases h
            exact ⟨_, _, (by rw [← HNUM.out]; rfl), ⟨_, rfl⟩, fun _ _ => (by rw [hr0]; exact RdB.none), Nat.le_refl _, by omega⟩
          · have hc5 : (4 : Int) < (c : Int) := by omega
            have hc6 : 4 < c := by omega
            go_wp2
            go_quiet (fail)
            go_wp2
            go_ret3
            refine ⟨(fun h => by rw [HT.out] at h; cases h), fun x' r' h => ?_⟩
            rw [HT.out] at h
            cases h
            exact ⟨some ⟨ab, ao + 4, none⟩, c - 4, (by rw [← HNUM.out]; rfl), ⟨_, rfl⟩, fun _ hU => RdB.drop4 hU rfl, by omega, by omega⟩
set_option maxHeartbeats 1000000 in
theorem number_any (A : Option Addr) (n c : Nat) (b : List Int) (w : World) (hr : RdB w A n b) (hb : IsBytes b) (hc : n ≤ c) (_hcm : c ≤ 9223372036854775807) :
    Calls Try.prog 39 #[.slice A n c] w fun e w' => (n < 4 → e = .returned (.tuple #[.int .i64 0, .slice none 0 0, .bool false]) ∧ Drawn w w') ∧
      ∀ x y z u r, b = x :: y :: z :: u :: r → ∃ A' c', e = .returned (.tuple #[.int .i64 (numF x y z u), .slice A' (n - 4) c', .bool true]) ∧ Drawn w w' ∧ (∀ U, RdB U A n b → RdB U A' (n - 4) r) ∧ n - 4 ≤ c' ∧ c' ≤ c := by
  have hs := hr.small
  have HR := Lib.hid hr
  have hl := hr.len
  by_cases h4 : n < 4
  · have hd : decide ((n : Int) < 4) = true := by simp; omega
    have HL := Lib.hid hl
    clear hr hl
    go_enter Try.func39, Try.ntmps39
    go_wp2
    go_ret3
    refine ⟨fun _ => ⟨rfl, Drawn.refl _⟩, fun x y z u r h => ?_⟩
    have := HL.out
    rw [h] at this
    simp at this
    omega
  · obtain ⟨x, y, z, u, r, rfl⟩ : ∃ x y z u r, b = x :: y :: z :: u :: r := by
      match b, hl with
      | x :: y :: z :: u :: r, _ => exact ⟨x, y, z, u, r, rfl⟩
      | [], hl => simp at hl; omega
      | [_], hl => simp at hl; omega
      | [_, _], hl => simp at hl; omega
      | [_, _, _], hl => simp at hl; omega
    obtain ⟨ab, ao, rfl, hcell⟩ := hr.cells (by omega)
    have d0 : w.cell? ⟨ab, ao, none⟩ = some (.int .u8 x) := hcell 0 (by omega)
    have d1 : w.cell? ⟨ab, ao + 1, none⟩ = some (.int .u8 y) := hcell 1 (by omega)
    have d2 : w.cell? ⟨ab, ao + 2, none⟩ = some (.int .u8 z) := hcell 2 (by omega)
    have d3 : w.cell? ⟨ab, ao + 3, none⟩ = some (.int .u8 u) := hcell 3 (by omega)
    have hd : decide ((n : Int) < 4) = false := by simp; omega
    obtain ⟨x0, x1⟩ := hb x (by simp)
    obtain ⟨y0, y1⟩ := hb y (by simp)
    obtain ⟨z0, z1⟩ := hb z (by simp)
    obtain ⟨u0, u1⟩ := hb u (by simp)
    have h04 : (4 : Int) ≤ (n : Int) := by omega
    have h4c : (4 : Int) ≤ (c : Int) := by omega
    have n0 : (0 : Int) < (n : Int) := by omega
    have n1 : (1 : Int) < (n : Int) := by omega
    have n2 : (2 : Int) < (n : Int) := by omega
    have n3 : (3 : Int) < (n : Int) := by omega
    have e1 : IntKind.i64.wrap (x * 16777216) = x * 16777216 := IntWalk.i64_in _ (by omega)
    have e2 : IntKind.i64.wrap (y * 65536) = y * 65536 := IntWalk.i64_in _ (by omega)
    have e3 : IntKind.i64.wrap (z * 256) = z * 256 := IntWalk.i64_in _ (by omega)
    have f1 := or24 (x := x * 16777216) (y := y * 65536) (by omega) (by omega) (by omega) (by omega) (by omega)
    have f2 := or16 (x := x * 16777216 + y * 65536) (y := z * 256) (by omega) (by omega) (by omega) (by omega) (by omega)
    have f3 := or8 (x := x * 16777216 + y * 65536 + z * 256) (y := u) (by omega) (by omega) (by omega) (by omega) (by omega)
    have HNUM := Lib.hid (show x * 16777216 + y * 65536 + z * 256 + u = numF x y z u from rfl)
    clear hr hl hcell hb
    by_cases hc4 : c = 4
    · have hn4 : n = 4 := by omega
      subst hc4
      subst hn4
      have hr0 : r = [] := by have := HR.out.len; simp at this; exact this
      have HR0 := Lib.hid hr0
      clear hr0
      go_enter Try.func39, Try.ntmps39
      go_wp2
      go_quiet (fail)
      go_wp2
      go_ret3
      refine ⟨fun h => absurd h (by omega), fun x' y' z' u' r' h => ?_⟩
      cases h
      exact ⟨_, _, (by rw [← HNUM.out]; rfl), ⟨_, rfl⟩, fun _ _ => (by rw [HR0.out]; exact RdB.none), Nat.le_refl _, by omega⟩
    · have hc5 : (4 : Int) < (c : Int) := by omega
      have hc6 : 4 < c := by omega
      go_enter Try.func39, Try.ntmps39
      go_wp2
      go_quiet (fail)
      go_wp2
      go_ret3
      refine ⟨fun h => absurd h (by omega), fun x' y' z' u' r' h => ?_⟩
      cases h
      exact ⟨some ⟨ab, ao + 4, none⟩, c - 4, (by rw [← HNUM.out]; rfl), ⟨_, rfl⟩, fun _ hU => RdB.drop4 hU rfl, by omega, by omega⟩
end Go.Proofs.Ytodmkcolamppmaa

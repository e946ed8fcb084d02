/-
  The contracts of the store's New, Len, Words and Clause; slices.Clone and slices.Equal.
-/
import Derived.Test.YtmljcbdlkeooiaaStore9
namespace Go.Proofs.Ytmljcbdlkeooiaa
open Go.RowKit Go.Proofs.PlaitSep Go.Proofs.PlaitPure

def SM.new (m : Int) : SM := ⟨(min (max m 1) 262144).toNat, [], []⟩
theorem SM.new_inv (m : Int) : (SM.new m).Inv := by
  refine ⟨?_, Nat.zero_le _, fun i hi => ?_, Nat.zero_le _, fun i r => ?_, fun i => ?_⟩
  · show (min (max m 1) 262144).toNat ≤ 262144
    omega
  · exact absurd hi (by simp [SM.new])
  · constructor
    · intro h
      have e : (SM.new m).getW i = [] := rfl
      rw [e] at h; cases h
    · rintro ⟨h, _⟩
      exact absurd h (by simp [SM.new])
  · exact List.nodup_nil
theorem ret_ptr {a b : Option Addr} (h : a = b) : Ending.returned (.pointer a) = .returned (.pointer b) := by rw [h]
theorem new_at (w : World) (m k : Int) (h : k = ((SM.new m).most : Int)) : StoreAt w.heap.size w (w.alloc (.cells #[.int .i64 k, .slice none 0 0, .slice none 0 0, .slice none 0 0, .slice none 0 0] 54)) w.heap.size ⟨none, 0, none, 0, none, 0, none, 0, []⟩ (SM.new m) emp := by
  subst h
  refine ⟨((St.start w).pt_new _ _).conseq ?_, rfl⟩
  unfold storeHP
  have e1 : (SM.new m).words = [] := rfl
  have e2 : (SM.new m).begins = [] := rfl
  have e3 : (SM.new m).short = [] := rfl
  have e4 : sl none 0 0 27 1 (outer []) = emp := by
    funext h
    apply propext
    exact ⟨fun k => k.2.2.2, fun k => ⟨rfl, rfl, rfl, k⟩⟩
  rw [e1, e2, e3]
  simp only [sli_nil, List.length_nil, e4, star_emp, inner, List.map_nil, stars_nil]
  rfl
set_option maxHeartbeats 400000 in
theorem New_any (m : Int) (w : World) :
    Calls Try.prog 11 #[.int .i64 m] w fun e w' => ∃ p L, e = .returned (.pointer (some ⟨p, 0, none⟩)) ∧ StoreAt w.heap.size w w' p L (SM.new m) emp := by
  go_enter Try.func11, Try.ntmps11
  go_wp2
  all_goals
    go_ret
    refine ⟨w.heap.size, rfl, ⟨none, 0, none, 0, none, 0, none, 0, []⟩, new_at w m _ ?_⟩
    show _ = (((min (max m 1) 262144).toNat : Nat) : Int)
    omega
section
variable {B : Nat} {w0 w : World} {p : Nat} {L : SLay} {S : SM} {F : HP}
set_option maxHeartbeats 400000 in
theorem Len_any (h : StoreAt B w0 w p L S F) : Calls Try.prog 17 #[.pointer (some ⟨p, 0, none⟩)] w fun e w' => e = .returned (.int .i64 S.cls.length) ∧ w = w' := by
  have c2 := h.tpt.pt_cell 2
  simp only [storeCells, slv] at c2
  clear h
  go_enter Try.func17, Try.ntmps17
  go_wp2
  go_ret
  exact ⟨rfl, rfl⟩
set_option maxHeartbeats 400000 in
theorem Words_any (h : StoreAt B w0 w p L S F) : Calls Try.prog 18 #[.pointer (some ⟨p, 0, none⟩)] w fun e w' => e = .returned (.int .i64 S.words.length) ∧ w = w' := by
  have c1 := h.tpt.pt_cell 1
  simp only [storeCells, slv] at c1
  clear h
  go_enter Try.func18, Try.ntmps18
  go_wp2
  go_ret
  exact ⟨rfl, rfl⟩
theorem St.sl_empty (w : World) (e : TypeId) : St w.heap.size w (w.alloc (.cells #[] e)) (star (sl (some w.heap.size) 0 0 e 1 []) emp) := by
  have h1 := (St.start w).pt_new #[] e
  exact ⟨h1.below, h1.base, h1.sat.pt_sl rfl (Nat.le_refl _) (Nat.zero_le _) (by simp) rfl⟩
set_option maxHeartbeats 400000 in
theorem Clone_any (b o n c : Nat) (xs : List Int) (w : World) (hr : Rd w (some ⟨b, o, none⟩) n xs) (hn : n ≤ 1000000) :
    Calls Try.prog 35 #[.slice (some ⟨b, o, none⟩) n c] w fun e w' => ∃ a c', e = .returned (slv a xs.length c') ∧ St w.heap.size w w' (sli 3 a c' xs) := by
  have HR := Lib.hid hr
  have q : ∀ (w : World) (a : Option Addr) (n c n' c' : Nat), (binOp .eql 27 (.slice a n c) (.slice none n' c')).run Try.prog w = .ok (.bool a.isNone) w := fun w a n c n' c' => Lib.run_eql_slice_nil w _ _ a n c n' c' Try.underlying27
  have HE := Lib.hid (St.sl_empty w 3)
  clear hr
  go_enter Try.func35, Try.ntmps35
  go_wp2_with (at_builtin; refine wpList_append_rd rfl _ _ 27 3 rfl Try.underlying27 Try.infoInt (show St w.heap.size w _ (star (sli 3 (some w.heap.size) 0 []) emp) from HE.out) 0 rfl _ n c xs (HR.out.grow HE.out.below) rfl rfl (by omega) ?_; intro a' c' w1 h1)
  go_ret
  refine ⟨a', c', ?_, ?_⟩
  · rw [HR.out.len]; simp [slv]
  · exact (h1.conseq (star_emp _))
def ClausePost (B : Nat) (w0 : World) (p : Nat) (L : SLay) (S : SM) (F : HP) (ref : Int) (e : Ending) (w' : World) : Prop :=
  (0 ≤ ref ∧ ref < S.cls.length → ∃ a c, e = .returned (.tuple #[slv a (S.cl ref.toNat).lits.length c, .int .i64 0]) ∧ StoreAt B w0 w' p L S (star (sli 3 a c (S.cl ref.toNat).lits) F)) ∧
  (¬ (0 ≤ ref ∧ ref < S.cls.length) → e = .returned (.tuple #[.slice none 0 0, .int .i64 113]) ∧ w = w')
set_option maxRecDepth 100000 in
set_option maxHeartbeats 1000000 in
theorem Clause_any (ref : Int) (h : StoreAt B w0 w p L S F) (hS : S.Inv) :
    Calls Try.prog 21 #[.pointer (some ⟨p, 0, none⟩), .int .i64 ref] w (ClausePost (w := w) B w0 p L S F ref) := by
  have c2 := h.tpt.pt_cell 2
  obtain ⟨k, hk⟩ : ∃ k, S.cls.length = k := ⟨_, rfl⟩
  simp only [storeCells, slv, hk] at c2
  have H := Lib.hid h
  have HS := Lib.hid hS
  have HK := Lib.hid hk
  clear h hS hk
  by_cases h0 : ref < 0
  · go_enter Try.func21, Try.ntmps21
    go_wp2
    go_ret2
    exact ⟨fun hh => absurd hh.1 (by omega), fun _ => ⟨rfl, rfl⟩⟩
  · by_cases h1 : (k : Int) ≤ ref
    · go_enter Try.func21, Try.ntmps21
      go_wp2
      go_ret2
      exact ⟨fun hh => absurd hh.2 (by rw [HK.out]; omega), fun _ => ⟨rfl, rfl⟩⟩
    · obtain ⟨i, rfl⟩ : ∃ i : Nat, ref = (i : Int) := ⟨ref.toNat, by omega⟩
      have hik : i < S.cls.length := by have := HK.out; omega
      have hw : S.words.length ≤ 262144 := Nat.le_trans HS.out.words HS.out.most
      have hcl := clause_any i H.out hik hw
      obtain ⟨bg, hbg⟩ : ∃ bg, S.begin i = bg := ⟨_, rfl⟩
      obtain ⟨ln, hln⟩ : ∃ ln, (S.cl i).lits.length = ln := ⟨_, rfl⟩
      have hle := S.begin_le hik
      rw [hbg, hln] at hcl hle
      have hrd : ∀ (w' : World), Drawn w w' → ∀ wb, L.wv = some wb → Rd w' (some ⟨wb, bg + 2, none⟩) ln (S.cl i).lits := fun w' hd wb hwb => ⟨hln, by omega, fun _ => ⟨wb, bg + 2, rfl, fun j hj => by
        have := ((H.out.drawn hd).word_at hik hwb hbg rfl rfl).2.2 j (by rw [hln]; exact hj)
        rw [show bg + (2 + j) = bg + 2 + j by omega] at this
        exact this⟩⟩
      have HCL := Lib.hid hcl
      have HRD := Lib.hid hrd
      have HLN := Lib.hid hln
      clear hcl hrd hbg hln hik
      by_cases hz : ln = 0
      · subst hz
        have hnil : (S.cl i).lits = [] := List.eq_nil_of_length_eq_zero HLN.out
        have HNIL := Lib.hid hnil
        clear hnil
        go_enter Try.func21, Try.ntmps21
        go_wp2_with (first
          | (go_at_call 33; refine (HCL.out).mono ?_; rintro e w1 ⟨⟨wb, hwb, rfl⟩, hD⟩; have h1' := H.out.drawn hD; have H1 := Lib.hid h1'; clear h1')
          | (go_at_call 35; refine (Clone_any wb bg 0 0 [] w1 ⟨rfl, by omega, fun h => absurd h (by omega)⟩ (by omega)).mono ?_; rintro e w2 ⟨a, c', rfl, h2⟩))
        go_ret2
        unfold ClausePost
        rw [Int.toNat_natCast, HNIL.out]
        refine ⟨fun _ => ⟨a, c', rfl, ?_⟩, fun hh => absurd ⟨by omega, by have := HK.out; omega⟩ hh⟩
        exact ⟨(H1.out.st.nest h2).conseq (by ac_rfl), H1.out.ws⟩
      · go_enter Try.func21, Try.ntmps21
        go_wp2_with (first
          | (go_at_call 33; refine (HCL.out).mono ?_; rintro e w1 ⟨⟨wb, hwb, rfl⟩, hD⟩; have hr1 := HRD.out _ hD _ hwb; have HR1 := Lib.hid hr1; have h1' := H.out.drawn hD; have H1 := Lib.hid h1'; clear hr1 h1')
          | (go_at_call 35; refine (Clone_any _ _ _ _ _ _ HR1.out (by omega)).mono ?_; rintro e w2 ⟨a, c', rfl, h2⟩))
        go_ret2
        unfold ClausePost
        rw [Int.toNat_natCast]
        refine ⟨fun _ => ⟨a, c', rfl, ?_⟩, fun hh => absurd ⟨by omega, by have := HK.out; omega⟩ hh⟩
        exact ⟨(H1.out.st.nest h2).conseq (by ac_rfl), H1.out.ws⟩
end
end Go.Proofs.Ytmljcbdlkeooiaa

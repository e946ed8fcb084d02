/-
  The chapter's examples: the pure functions are reckoned by the kernel; the walk of plaitlaw11's known.
-/
import Derived.Test.YtmljcbdlkeooiaaLaw5
namespace Go.Proofs.Ytmljcbdlkeooiaa
open Go.RowKit Go.Proofs.PlaitSep Go.Proofs.PlaitPure
def K0 : SM := SM.new 100
def K1 : SM := (addF K0 [1, 2]).1
theorem K1_add : addF K0 [1, 2] = (K1, 0, 0) := by rfl
theorem K0_inv : K0.Inv := SM.new_inv 100
def K2 : SM := (addF K1 [-1, 3]).1
theorem K2_add : addF K1 [-1, 3] = (K2, 1, 0) := by rfl
theorem K1_inv : K1.Inv := K0_inv.add _
def K3 : SM := (addF K2 [-2, -3]).1
theorem K3_add : addF K2 [-2, -3] = (K3, 2, 0) := by rfl
theorem K2_inv : K2.Inv := K1_inv.add _
def K4 : SM := (addF K3 [1, -1]).1
theorem K4_add : addF K3 [1, -1] = (K4, 0, 112) := by rfl
theorem K3_inv : K3.Inv := K2_inv.add _
def K5 : SM := (addF K4 [0]).1
theorem K5_add : addF K4 [0] = (K5, 0, 110) := by rfl
theorem K4_inv : K4.Inv := K3_inv.add _
theorem K5_inv : K5.Inv := K4_inv.add _
def R6 : SM × RM × Int := ((followAll 10 K5 [1]).getD (K5, RM.start, 0))
def R7 : SM × RM × Int := ((followAll 10 R6.1 [1, 2]).getD (K5, RM.start, 0))
theorem R6_eq : followAll 10 K5 [1] = some R6 := by
  have : (followAll 10 K5 [1]).isSome = true := by rfl
  unfold R6
  cases h : followAll 10 K5 [1] with
  | none => rw [h] at this; cases this
  | some r => rfl
theorem R6_out : R6.2.1.out = [1, 3, -2] := by rfl
theorem R6_end : R6.2.2 = -1 := by rfl
theorem R6_inv : R6.1.Inv := (followAll_spec K5_inv R6_eq).1
theorem R7_eq : followAll 10 R6.1 [1, 2] = some R7 := by
  have : (followAll 10 R6.1 [1, 2]).isSome = true := by rfl
  unfold R7
  cases h : followAll 10 R6.1 [1, 2] with
  | none => rw [h] at this; cases this
  | some r => rfl
theorem R7_out : R7.2.1.out = [1, 3, -2] := by rfl
theorem R7_end : R7.2.2 = -2 := by rfl
theorem R7_inv : R7.1.Inv := (followAll_spec R6_inv R7_eq).1
theorem R7_len : R7.1.cls.length = 3 := by rfl
theorem R7_words : R7.1.words.length = 12 := by rfl
theorem R7_two : (R7.1.cl 2).lits = [-2, -3] := by rfl
theorem R7_has : hasF R7.1 [2, 1] = true := by rw [hasF_hasL R7_inv]; rfl
theorem R7_hasnt : hasF R7.1 [2] = false := by rw [hasF_hasL R7_inv]; rfl
section
variable {B : Nat} {w0 w : World} {p : Nat} {L : SLay} {S : SM} {F : HP}
theorem StoreAt.alloc (h : StoreAt B w0 w p L S F) (o : Obj) : StoreAt B w0 (w.alloc o) p L S F := ⟨h.st.alloc o, h.ws⟩
theorem Add_to {res : SM × Nat × Int} (A : Option Addr) (n c : Nat) (xs : List Int) (h : StoreAt B w0 w p L S F) (hS : S.Inv) (hr : Rd w A n xs) (hn : n ≤ 1000000) (he : addF S xs = res) :
    Calls Try.prog 13 #[.pointer (some ⟨p, 0, none⟩), .slice A n c] w (AddPost B w0 p F res) := he ▸ Add_any A n c xs h hS hr hn
theorem StoreAt.box (h : StoreAt B w0 w p L S F) (vs : Array Value) (xs : List Int) (hv : vs.toList = ints xs) (hx : xs.length ≤ 1000000) : StoreAt B w0 (w.alloc (.cells vs 3)) p L S (star (sli 3 (some w.heap.size) xs.length xs) F) := by
  have h1 := h.st.pt_new vs 3
  rw [hv] at h1
  refine ⟨⟨h1.below, h1.base, ?_⟩, h.ws⟩
  have h2 := h1.sat.pt_sl (xs := ints xs) (n := xs.length) (c := xs.length) (sz := 1) (by simp) (Nat.le_refl _) (by unfold maxLen; omega) (by simp) (by rw [Nat.mul_one, List.take_of_length_le (by simp)])
  have e : star (storeHP p L S) (star (sli 3 (some w.heap.size) xs.length xs) F) = star (sl (some w.heap.size) xs.length xs.length 3 1 (ints xs)) (star (storeHP p L S) F) := by unfold sli; ac_rfl
  rw [e]
  exact h2
theorem Follow_to {fuel : Nat} {res : SM × RM × Int} {out : List Int} {m : Int} (vs : Array Value) (xs : List Int) (h : StoreAt B w0 w p L S F) (hS : S.Inv) (hv : vs.toList = ints xs) (hx : xs.length ≤ 1000000) (hf : followAll fuel S xs = some res) (ho : res.2.1.out = out) (hm : res.2.2 = m) (c : Nat) :
    Calls Try.prog 23 #[.pointer (some ⟨p, 0, none⟩), .slice (some ⟨w.heap.size, 0, none⟩) xs.length c] (w.alloc (.cells vs 3)) fun e w' => ∃ oa oc L', e = .returned (.tuple #[slv oa out.length oc, .int .i64 m]) ∧ StoreAt B w0 w' p L' res.1 (star (sli 3 oa oc out) F) := by
  subst ho hm
  have hb := h.box vs xs hv hx
  refine (Follow_any fuel res (some ⟨w.heap.size, 0, none⟩) xs.length c xs (fun w' hh => St.rd (a := some w.heap.size) hh (by omega)) hx hb hS hf).mono ?_
  rintro e w' ⟨oa, oc, L', rfl, h1⟩
  exact ⟨oa, oc, L', rfl, (h1.st.conseq (show _ = star (star (storeHP p L' res.1) (star (sli 3 oa oc res.2.1.out) F)) (sli 3 (some w.heap.size) xs.length xs) by ac_rfl)).drop, h1.ws⟩
theorem Clause_in (i : Nat) (lits : List Int) (h : StoreAt B w0 w p L S F) (hS : S.Inv) (hi : i < S.cls.length) (hl : (S.cl i).lits = lits) (ref : Int) (hr : ref = i) :
    Calls Try.prog 21 #[.pointer (some ⟨p, 0, none⟩), .int .i64 ref] w fun e w' => ∃ a c, e = .returned (.tuple #[slv a lits.length c, .int .i64 0]) ∧ StoreAt B w0 w' p L S (star (sli 3 a c lits) F) := by
  subst hr hl
  refine (Clause_any (i : Int) h hS).mono ?_
  intro e w' hh
  have := hh.1 ⟨by omega, by omega⟩
  rwa [Int.toNat_natCast] at this
theorem Clause_out (h : StoreAt B w0 w p L S F) (hS : S.Inv) (ref : Int) (hr : ¬ (0 ≤ ref ∧ ref < S.cls.length)) :
    Calls Try.prog 21 #[.pointer (some ⟨p, 0, none⟩), .int .i64 ref] w fun e w' => e = .returned (.tuple #[.slice none 0 0, .int .i64 113]) ∧ w = w' :=
  (Clause_any ref h hS).mono fun _ _ hh => hh.2 hr
/-- Two slices are alike: one that is owned, one just made. -/
theorem Ints_to {a : Option Nat} {c c' n : Nat} (xs ys : List Int) (vs : Array Value) (h : St B w0 w (star (sli 3 a c xs) F)) (hx : xs.length ≤ 1000000) (hv : vs.toList = ints ys) (hy : ys.length ≤ 1000000) (he : eqB xs ys = true) (hn : n = xs.length) :
    Calls Try.prog 15 #[slv a n c, .slice (some ⟨w.heap.size, 0, none⟩) ys.length c'] (w.alloc (.cells vs 3)) fun e w' => e = .returned (.bool true) ∧ Drawn (w.alloc (.cells vs 3)) w' := by
  subst hn
  have h1 := h.alloc (.cells vs 3)
  have h2 := h.pt_new vs 3
  rw [hv] at h2
  have r1 := St.rd h1 (by omega)
  have r2 : Rd (w.alloc (.cells vs 3)) (some ⟨w.heap.size, 0, none⟩) ys.length ys := by
    refine ⟨rfl, by omega, fun _ => ⟨w.heap.size, 0, rfl, fun j hj => ?_⟩⟩
    rw [Nat.zero_add, h2.pt_cell j, ints_get _ _ hj]
  rw [← he]
  exact ints_any _ _ _ c _ c' xs ys _ r1 r2
end
set_option maxRecDepth 100000 in
set_option maxHeartbeats 4000000 in
theorem known_any (w : World) : Calls Try.prog 9 #[] w fun e w' => e = .returned (.bool true) ∧ Below w.heap.size w w' := by
  go_enter Try.func9, Try.ntmps9
  go_wp2_with fail
  refine (New_any 100 w).mono ?_
  rintro e w1 ⟨p, L0, rfl, h0⟩
  have G0 : Hid (StoreAt w.heap.size w w1 p L0 K0 emp) := Lib.hid h0
  clear h0
  go_wp2_with fail
  refine (Add_to _ 2 2 [1, 2] (StoreAt.alloc G0.out _) K0_inv (Rd.newTwo _ (1) (2) _) (by omega) K1_add).mono ?_
  rintro e w2 ⟨rfl, L1, h1⟩
  have G1 : Hid (StoreAt w.heap.size w w2 p L1 K1 emp) := Lib.hid h1
  clear h1
  go_wp2_with fail
  refine (Add_to _ 2 2 [-1, 3] (StoreAt.alloc G1.out _) K1_inv (Rd.newTwo _ (-1) (3) _) (by omega) K2_add).mono ?_
  rintro e w3 ⟨rfl, L2, h2⟩
  have G2 : Hid (StoreAt w.heap.size w w3 p L2 K2 emp) := Lib.hid h2
  clear h2
  go_wp2_with fail
  refine (Add_to _ 2 2 [-2, -3] (StoreAt.alloc G2.out _) K2_inv (Rd.newTwo _ (-2) (-3) _) (by omega) K3_add).mono ?_
  rintro e w4 ⟨rfl, L3, h3⟩
  have G3 : Hid (StoreAt w.heap.size w w4 p L3 K3 emp) := Lib.hid h3
  clear h3
  go_wp2_with fail
  refine (Add_to _ 2 2 [1, -1] (StoreAt.alloc G3.out _) K3_inv (Rd.newTwo _ (1) (-1) _) (by omega) K4_add).mono ?_
  rintro e w5 ⟨rfl, L4, h4⟩
  have G4 : Hid (StoreAt w.heap.size w w5 p L4 K4 emp) := Lib.hid h4
  clear h4
  go_wp2_with fail
  refine (Add_to _ 1 1 [0] (StoreAt.alloc G4.out _) K4_inv (Rd.newBox _ (0) _) (by omega) K5_add).mono ?_
  rintro e w6 ⟨rfl, L5, h5⟩
  have G5 : Hid (StoreAt w.heap.size w w6 p L5 K5 emp) := Lib.hid h5
  clear h5
  go_wp2_with fail
  refine (Follow_to #[.int .i64 1] [1] G5.out K5_inv rfl (by decide) R6_eq R6_out R6_end 1).mono ?_
  rintro e w7 ⟨oa, oc, L6, rfl, h6⟩
  unfold slv
  have G6 := Lib.hid h6
  clear h6
  go_wp2_with fail
  refine (Follow_to #[.int .i64 1, .int .i64 2] [1, 2] G6.out R6_inv rfl (by decide) R7_eq R7_out R7_end 2).mono ?_
  rintro e w8 ⟨ob, oc2, L7, rfl, h7⟩
  unfold slv
  have G7 := Lib.hid h7
  clear h7
  go_wp2_with fail
  refine (Clause_in 2 [-2, -3] G7.out R7_inv (by rw [R7_len]; decide) R7_two 2 rfl).mono ?_
  rintro e w9 ⟨xa, xc, rfl, h8⟩
  unfold slv
  have G8 := Lib.hid h8
  clear h8
  go_wp2_with fail
  refine (Clause_out G8.out R7_inv 3 (by rw [R7_len]; decide)).mono ?_
  rintro e w10 ⟨rfl, rfl⟩
  have G9 := G8
  go_wp2_with fail
  refine (Ints_to [1, 3, -2] [1, 3, -2] #[.int .i64 1, .int .i64 3, .int .i64 (-2)] (G9.out.st.conseq (show _ = star (sli 3 oa oc [1, 3, -2]) (star (star (storeHP p L7 R7.1) (sli 3 xa xc [-2, -3])) (star (sli 3 ob oc2 [1, 3, -2]) emp)) by ac_rfl)) (by decide) rfl (by decide) (by decide) rfl).mono ?_
  rintro e w11 ⟨rfl, hD1⟩
  have G10 := Lib.hid ((G9.out.alloc _).drawn hD1)
  clear hD1
  go_wp2_with fail
  refine (Ints_to [-2, -3] [-2, -3] #[.int .i64 (-2), .int .i64 (-3)] (G10.out.st.conseq (show _ = star (sli 3 xa xc [-2, -3]) (star (storeHP p L7 R7.1) (star (sli 3 ob oc2 [1, 3, -2]) (star (sli 3 oa oc [1, 3, -2]) emp))) by ac_rfl)) (by decide) rfl (by decide) (by decide) rfl).mono ?_
  rintro e w12 ⟨rfl, hD2⟩
  have G11 := Lib.hid ((G10.out.alloc _).drawn hD2)
  clear hD2
  go_wp2_with fail
  refine (Len_any G11.out).mono ?_
  rw [R7_len]
  rintro e w13 ⟨rfl, rfl⟩
  go_wp2_with fail
  refine (Words_any G11.out).mono ?_
  rw [R7_words]
  rintro e w14 ⟨rfl, rfl⟩
  go_wp2_with fail
  refine (Has_any _ 2 2 [2, 1] (StoreAt.alloc G11.out _) R7_inv (Rd.newTwo _ (2) (1) _) (by omega)).mono ?_
  rw [R7_has]
  rintro e w15 ⟨rfl, h15⟩
  have G12 := Lib.hid h15
  clear h15
  go_wp2_with fail
  refine (Has_any _ 1 1 [2] (StoreAt.alloc G12.out _) R7_inv (Rd.newBox _ (2) _) (by omega)).mono ?_
  rw [R7_hasnt]
  rintro e w16 ⟨rfl, h16⟩
  have G13 := Lib.hid h16
  clear h16
  go_wp2
  go_ret
  exact ⟨rfl, G13.out.st.below⟩
end Go.Proofs.Ytmljcbdlkeooiaa

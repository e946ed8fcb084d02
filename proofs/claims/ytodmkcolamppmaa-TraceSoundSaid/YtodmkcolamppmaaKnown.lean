/-
  The chapter's examples: the walk of plaitlaw12's known.
-/
import Derived.Test.YtodmkcolamppmaaLists
import Derived.Test.YtodmkcolamppmaaTrim1
namespace Go.Proofs.PlaitSep
open Go Go.RowKit Go.Proofs.PlaitPure
theorem Rd.alloc {w : World} {A : Option Addr} {n : Nat} {xs : List Int} (h : Rd w A n xs) (o : Obj) : Rd (w.alloc o) A n xs := h.grow ((Below.refl _ _).alloc (Nat.le_refl _) _)
theorem Rd.new (w : World) (b : Nat) (xs : List Int) (vs : Array Value) (e : TypeId) (hb : b = w.heap.size) (hv : vs.toList = ints xs) (hl : xs.length ≤ 1000) : Rd (w.alloc (.cells vs e)) (some ⟨b, 0, none⟩) xs.length xs := by
  subst hb
  have h2 := (St.start w).pt_new vs e
  rw [hv] at h2
  refine ⟨rfl, by omega, fun _ => ⟨w.heap.size, 0, rfl, fun j hj => ?_⟩⟩
  rw [Nat.zero_add, h2.pt_cell j, ints_get _ _ hj]
theorem Rd2.new (w : World) (b : Nat) (W : List (Option Addr × Nat × List Int)) (vs : Array Value) (e : TypeId) (hb : b = w.heap.size) (hv : vs.toList = W.map fun x => .slice x.1 x.2.2.length x.2.1) (hl : W.length ≤ 1000) (h : ∀ x ∈ W, Rd w x.1 x.2.2.length x.2.2) :
    Rd2 (w.alloc (.cells vs e)) (some ⟨b, 0, none⟩) W.length (W.map fun x => x.2.2) := by
  subst hb
  have h2 := (St.start w).pt_new vs e
  rw [hv] at h2
  refine ⟨by simp, by omega, fun _ => ⟨w.heap.size, 0, rfl, fun j hj => ?_⟩⟩
  obtain ⟨x, hx⟩ : ∃ x, W[j]? = some x := ⟨W[j], by simp [hj]⟩
  have hg : gl (W.map fun x => x.2.2) j = x.2.2 := by simp [gl, List.getD_eq_getElem?_getD, hx]
  refine ⟨x.1, x.2.1, ?_, ?_⟩
  · rw [Nat.zero_add, h2.pt_cell j, hg]
    simp [hx]
  · rw [hg]
    exact (h x (List.mem_of_getElem? hx)).alloc _
theorem size_alloc (w : World) (o : Obj) : (w.alloc o).heap.size = w.heap.size + 1 := by simp
theorem rows1 (w : World) (xs : List Int) (vs : Array Value) (t e : TypeId) (n c b0 b1 : Nat) (h0 : b0 = w.heap.size) (h1 : b1 = w.heap.size + 1) (hn : xs.length = n) (hv : vs.toList = ints xs) (hl : xs.length ≤ 1000) :
    Rd2 ((w.alloc (.cells vs t)).alloc (.cells #[.slice (some ⟨b0, 0, none⟩) n c] e)) (some ⟨b1, 0, none⟩) 1 [xs] := by
  subst hn h0 h1
  refine Rd2.new (w.alloc (.cells vs t)) (w.heap.size + 1) [(some ⟨w.heap.size, 0, none⟩, c, xs)] _ e (size_alloc _ _).symm rfl (by simp) fun x hx => ?_
  rw [List.mem_singleton.1 hx]
  exact Rd.new w _ xs vs t rfl hv hl
theorem rows2 (w : World) (xs ys : List Int) (vs us : Array Value) (t e : TypeId) (n c m d b0 b1 b2 : Nat) (h0 : b0 = w.heap.size) (h1 : b1 = w.heap.size + 1) (h2 : b2 = w.heap.size + 1 + 1) (hn : xs.length = n) (hv : vs.toList = ints xs) (hl : xs.length ≤ 1000) (hm : ys.length = m) (hu : us.toList = ints ys) (hl2 : ys.length ≤ 1000) :
    Rd2 (((w.alloc (.cells vs t)).alloc (.cells us t)).alloc (.cells #[.slice (some ⟨b0, 0, none⟩) n c, .slice (some ⟨b1, 0, none⟩) m d] e)) (some ⟨b2, 0, none⟩) 2 [xs, ys] := by
  subst hn hm h0 h1 h2
  refine Rd2.new ((w.alloc (.cells vs t)).alloc (.cells us t)) (w.heap.size + 1 + 1) [(some ⟨w.heap.size, 0, none⟩, c, xs), (some ⟨w.heap.size + 1, 0, none⟩, d, ys)] _ e (by simp only [size_alloc]) rfl (by simp) fun x hx => ?_
  rcases List.mem_cons.1 hx with rfl | hx
  · exact (Rd.new w _ xs vs t rfl hv hl).alloc _
  · rw [List.mem_singleton.1 hx]
    exact Rd.new (w.alloc (.cells vs t)) _ ys us t (size_alloc _ _).symm hu hl2
theorem rows3 (w : World) (xs ys zs : List Int) (vs us ts : Array Value) (t e : TypeId) (n c m d k g : Nat) (hn : xs.length = n) (hv : vs.toList = ints xs) (hl : xs.length ≤ 1000) (hm : ys.length = m) (hu : us.toList = ints ys) (hl2 : ys.length ≤ 1000) (hk : zs.length = k) (ht : ts.toList = ints zs) (hl3 : zs.length ≤ 1000) :
    Rd2 ((((w.alloc (.cells vs t)).alloc (.cells us t)).alloc (.cells ts t)).alloc (.cells #[.slice (some ⟨w.heap.size, 0, none⟩) n c, .slice (some ⟨w.heap.size + 1, 0, none⟩) m d, .slice (some ⟨w.heap.size + 1 + 1, 0, none⟩) k g] e)) (some ⟨w.heap.size + 1 + 1 + 1, 0, none⟩) 3 [xs, ys, zs] := by
  subst hn hm hk
  refine Rd2.new (((w.alloc (.cells vs t)).alloc (.cells us t)).alloc (.cells ts t)) (w.heap.size + 1 + 1 + 1) [(some ⟨w.heap.size, 0, none⟩, c, xs), (some ⟨w.heap.size + 1, 0, none⟩, d, ys), (some ⟨w.heap.size + 1 + 1, 0, none⟩, g, zs)] _ e (by simp only [size_alloc]) rfl (by simp) fun x hx => ?_
  rcases List.mem_cons.1 hx with rfl | hx
  · exact ((Rd.new w _ xs vs t rfl hv hl).alloc _).alloc _
  · rcases List.mem_cons.1 hx with rfl | hx
    · exact (Rd.new (w.alloc (.cells vs t)) _ ys us t (size_alloc _ _).symm hu hl2).alloc _
    · rw [List.mem_singleton.1 hx]
      exact Rd.new ((w.alloc (.cells vs t)).alloc (.cells us t)) _ zs ts t (by simp only [size_alloc]) ht hl3
theorem RdB.first {w : World} {A : Option Addr} {n : Nat} {xs : List Int} (h : RdB w A n xs) (m : Nat) (hm : m ≤ n) : RdB w A m (xs.take m) := by
  have hl := h.len
  refine ⟨by rw [List.length_take]; omega, by have := h.small; omega, fun hp => ?_⟩
  obtain ⟨b, o, e, hc⟩ := h.cells (by omega)
  refine ⟨b, o, e, fun j hj => ?_⟩
  rw [hc j (by omega)]
  simp [gi, List.getD_eq_getElem?_getD, hj]
theorem Rd2.first {w : World} {A : Option Addr} {n : Nat} {xss : List (List Int)} (h : Rd2 w A n xss) (m : Nat) (hm : m ≤ n) : Rd2 w A m (xss.take m) := by
  have hl := h.len
  refine ⟨by rw [List.length_take]; omega, by have := h.small; omega, fun hp => ?_⟩
  obtain ⟨b, o, e, hc⟩ := h.cells (by omega)
  refine ⟨b, o, e, fun j hj => ?_⟩
  have hg : gl (xss.take m) j = gl xss j := by simp [gl, List.getD_eq_getElem?_getD, hj]
  rw [hg]
  exact hc j (by omega)
theorem each1 {xs : List Int} {K : Nat} (h : xs.length ≤ K) : ∀ j, j < 1 → (gl [xs] j).length ≤ K := fun j hj => by
  obtain rfl : j = 0 := by omega
  exact h
theorem each2 {xs ys : List Int} {K : Nat} (h : xs.length ≤ K) (k : ys.length ≤ K) : ∀ j, j < 2 → (gl [xs, ys] j).length ≤ K := fun j hj => by
  have : j = 0 ∨ j = 1 := by omega
  rcases this with rfl | rfl
  · exact h
  · exact k
theorem btr {w0 w w' : World} (h : Below w0.heap.size w0 w) (k : Below w.heap.size w w') : Below w0.heap.size w0 w' := h.trans (k.mono h.size)
theorem bal {w0 w : World} (h : Below w0.heap.size w0 w) (o : Obj) : Below w0.heap.size w0 (w.alloc o) := h.alloc h.size o
theorem below2 (w : World) (a b : Obj) : Below w.heap.size w ((w.alloc a).alloc b) := ((Below.refl _ _).alloc (Nat.le_refl _) _).alloc (by simp) _
end Go.Proofs.PlaitSep
namespace Go.Proofs.Ytodmkcolamppmaa
open Go.RowKit Go.Proofs.PlaitSep Go.Proofs.PlaitPure

def KG : List (List Int) := [[1], [-1, 2], [-2]]
theorem KE1 : encF [[0, 1, 2]] = (encB [[0, 1, 2]], 0) := by rfl
theorem KE1l : (encB [[0, 1, 2]]).length = 24 := by rfl
theorem KE2 : encF [[1, 2], [3, 0]] = (encB [[1, 2], [3, 0]], 0) := by rfl
theorem KE2l : (encB [[1, 2], [3, 0]]).length = 32 := by rfl
theorem KD1 : decF (encB [[0, 1, 2]]) = ([[0, 1, 2]], 0) := by rfl
theorem KD3 : decF ((encB [[0, 1, 2]]).take 23) = ([], 120) := by rfl
theorem KV1 : derGo KG [] [[0, 1]] = some [[2]] := by rfl
theorem KV2 : derGo [[1, 2], [-1, -2]] [] [[0, 1]] = none := by rfl
theorem KT : trimF KG (encB [[1, 2], [3, 0]]) = (encB [[1, 2], [3, 0]], 0) := by rfl
theorem KC1 : (chkF KG (encB [[0, 1, 2]])).2 = 0 := by rfl
theorem KC2 : (chkF KG (encB [[1, 2], [3, 0]])).2 = 0 := by rfl
theorem KC3 : (chkF [[1], [-1, 2]] (encB [[0, 1, 2]])).2 = 121 := by rfl
set_option maxRecDepth 100000 in
set_option maxHeartbeats 4000000 in
theorem known_any (w : World) : Calls Try.prog 10 #[] w fun e w' => e = .returned (.bool true) ∧ Below w.heap.size w w' := by
  go_enter Try.func10, Try.ntmps10
  go_wp2_with fail
  refine (steps_any _ 1 1 [[0, 1, 2]] _ (rows1 _ [0, 1, 2] _ _ _ 3 3 _ _ (by simp only [size_alloc]) (by simp only [size_alloc]) rfl rfl (by simp)) (by omega) (each1 (by simp))).mono ?_
  rintro e w1 ⟨A1, c1, rfl, hb1, hr1, hcap1, hc1⟩
  have hg1 := (rows3 w [1] [-1, 2] [-2] #[.int .i64 1] #[.int .i64 (-1), .int .i64 2] #[.int .i64 (-2)] 3 51 1 1 2 2 1 1 rfl rfl (by simp) rfl rfl (by simp) rfl rfl (by simp)).grow ((below2 _ _ _).trans (hb1.mono (by simp only [size_alloc]; omega)))
  have HG1 : Hid (Rd2 w1 (some ⟨w.heap.size + 1 + 1 + 1, 0, none⟩) 3 KG) := Lib.hid hg1
  have HB1 := Lib.hid (btr ((bal (bal (bal (bal (bal (bal (Below.refl _ w) _) _) _) _) _) _)) hb1)
  have HR1 := Lib.hid hr1
  clear hb1 hr1 hcap1 hg1
  go_wp2_with fail
  refine (encode_any A1 1 c1 [[0, 1, 2]] w1 HR1.out (by simp)).mono ?_
  rintro e w2 ⟨hb2, hok, _⟩
  obtain ⟨A2, c2, rfl, hr2, hl2, hm2⟩ := hok (by rw [KE1])
  rw [KE1l] at hr2 hl2 ⊢
  have HB2 := Lib.hid (btr HB1.out hb2)
  have HG2 := Lib.hid (HG1.out.grow hb2)
  have HO2 := Lib.hid hr2
  clear hb2 hok hr2
  go_wp2_with fail
  refine (steps_any _ 2 2 [[1, 2], [3, 0]] _ (rows2 _ [1, 2] [3, 0] _ _ _ _ 2 2 2 2 _ _ _ (by simp) (by simp) (by simp) rfl rfl (by simp) rfl rfl (by simp)) (by omega) (each2 (by simp) (by simp))).mono ?_
  rintro e w3 ⟨A3, c3, rfl, hb3, hr3, _, _⟩
  have hb23 := btr (bal (bal (bal (Below.refl _ w2) _) _) _) hb3
  have HB3 := Lib.hid (btr HB2.out hb23)
  have HG3 := Lib.hid (HG2.out.grow hb23)
  have HO3 := Lib.hid (HO2.out.grow hb23)
  have HR3 := Lib.hid hr3
  clear hb3 hb23 hr3
  go_wp2_with fail
  refine (encode_any A3 2 c3 [[1, 2], [3, 0]] w3 HR3.out (by simp)).mono ?_
  rintro e w4 ⟨hb4, hok, _⟩
  obtain ⟨A4, c4, rfl, hr4, hl4, hm4⟩ := hok (by rw [KE2])
  rw [KE2l] at hr4 hl4 ⊢
  have HB4 := Lib.hid (btr HB3.out hb4)
  have HG4 := Lib.hid (HG3.out.grow hb4)
  have HO4 := Lib.hid (HO3.out.grow hb4)
  have HT4 := Lib.hid hr4
  clear hb4 hok hr4
  go_wp2_with fail
  refine (decode_any A2 24 c2 (encB [[0, 1, 2]]) w4 HO4.out (encB_bytes _) (by omega) hl2 hm2).mono ?_
  rintro e w5 ⟨hb5, hok, _⟩
  obtain ⟨A5, c5, rfl, _, _⟩ := hok (by rw [KD1])
  rw [show (decF (encB [[0, 1, 2]])).1.length = 1 by rw [KD1]; rfl]
  have HB5 := Lib.hid (btr HB4.out hb5)
  have HG5 := Lib.hid (HG4.out.grow hb5)
  have HO5 := Lib.hid (HO4.out.grow hb5)
  have HT5 := Lib.hid (HT4.out.grow hb5)
  clear hb5 hok
  go_wp2_with fail
  refine (steps_any _ 1 1 [[0, 1]] _ (rows1 _ [0, 1] _ _ _ 2 2 _ _ (by simp) (by simp) rfl rfl (by simp)) (by omega) (each1 (by simp))).mono ?_
  rintro e w6 ⟨A6, c6, rfl, hb6, hr6, hcap6, _⟩
  have hb56 := btr (bal (bal (Below.refl _ w5) _) _) hb6
  have HB6 := Lib.hid (btr HB5.out hb56)
  have HG6 := Lib.hid (HG5.out.grow hb56)
  have HO6 := Lib.hid (HO5.out.grow hb56)
  have HT6 := Lib.hid (HT5.out.grow hb56)
  have HR6 := Lib.hid hr6
  have HC6 := Lib.hid hcap6
  clear hb6 hb56 hr6 hcap6
  go_wp2_with fail
  refine (Derive_any _ 3 3 KG A6 1 c6 [[0, 1]] w6 HG6.out HR6.out HC6.out (by omega) (by omega) (by simp [KG]) (each1 (by simp))).mono ?_
  rintro e w7 ⟨hb7, hok, _⟩
  obtain ⟨A7, c7, rfl, hr7, _⟩ := hok _ KV1
  rw [show ([[2]] : List (List Int)).length = 1 from rfl] at hr7 ⊢
  have HB7 := Lib.hid (btr HB6.out hb7)
  have HG7 := Lib.hid (HG6.out.grow hb7)
  have HO7 := Lib.hid (HO6.out.grow hb7)
  have HT7 := Lib.hid (HT6.out.grow hb7)
  have HD7 := Lib.hid hr7
  clear hb7 hok hr7
  go_wp2_with fail
  refine (steps_any _ 1 1 [[0, 1]] _ (rows1 _ [0, 1] _ _ _ 2 2 _ _ (by simp) (by simp) rfl rfl (by simp)) (by omega) (each1 (by simp))).mono ?_
  rintro e w8 ⟨A8, c8, rfl, hb8, hr8, hcap8, _⟩
  have hb78 := btr (bal (bal (bal (bal (bal (Below.refl _ w7) _) _) _) _) _) hb8
  have HX8 := Lib.hid ((rows2 w7 [1, 2] [-1, -2] #[.int .i64 1, .int .i64 2] #[.int .i64 (-1), .int .i64 (-2)] 3 51 2 2 2 2 _ _ _ rfl rfl rfl rfl rfl (by simp) rfl rfl (by simp)).grow (btr (bal (bal (Below.refl _ _) _) _) hb8))
  have HB8 := Lib.hid (btr HB7.out hb78)
  have HG8 := Lib.hid (HG7.out.grow hb78)
  have HO8 := Lib.hid (HO7.out.grow hb78)
  have HT8 := Lib.hid (HT7.out.grow hb78)
  have HD8 := Lib.hid (HD7.out.grow hb78)
  have HR8 := Lib.hid hr8
  have HC8 := Lib.hid hcap8
  clear hb8 hb78 hr8 hcap8
  go_wp2_with fail
  refine (Derive_any _ 2 2 [[1, 2], [-1, -2]] A8 1 c8 [[0, 1]] w8 HX8.out HR8.out HC8.out (by omega) (by omega) (by simp) (each1 (by simp))).mono ?_
  rintro e w9 ⟨hb9, _, hbad⟩
  obtain rfl := hbad KV2
  have HB9 := Lib.hid (btr HB8.out hb9)
  have HG9 := Lib.hid (HG8.out.grow hb9)
  have HT9 := Lib.hid (HT8.out.grow hb9)
  obtain ⟨b2, o2, hA2, hc2⟩ := (HO8.out.grow hb9).cells (by decide)
  subst hA2
  have HO9 := Lib.hid (HO8.out.grow hb9)
  have d2 : w9.cell? ⟨b2, o2, none⟩ = some (.int .u8 80) := hc2 0 (by decide)
  obtain ⟨b7, o7, hA7, hc7⟩ := (HD8.out.grow hb9).cells (by decide)
  subst hA7
  obtain ⟨Aj, cj, d7, hrj⟩ := hc7 0 (by decide)
  have d8 : w9.cell? ⟨b7, o7, none⟩ = some (.slice Aj 1 cj) := d7
  have HRJ : Hid (Rd w9 Aj 1 [2]) := Lib.hid hrj
  clear hb9 hbad hc2 hc7 d7 hrj
  go_wp2_with fail
  refine (ints_any Aj _ 1 cj 1 1 [2] [2] _ (HRJ.out.alloc _) (Rd.newBox w9 2 _)).mono ?_
  rintro e w10 ⟨rfl, hD10⟩
  rw [show eqB [2] [2] = true from rfl]
  have hb10 := btr (bal (Below.refl _ w9) _) (hD10.below _)
  have HB10 := Lib.hid (btr HB9.out hb10)
  have HG10 := Lib.hid (HG9.out.grow hb10)
  have HO10 := Lib.hid (HO9.out.grow hb10)
  have HT10 := Lib.hid (HT9.out.grow hb10)
  clear hb10 hD10 d2 d8
  go_wp2_with fail
  refine (trim_any _ 3 3 KG A4 32 c4 (encB [[1, 2], [3, 0]]) w10 HG10.out HT10.out (encB_bytes _) (by omega) (by omega) hl4 hm4 (by simp [KG])).mono ?_
  rintro e w11 ⟨hb11, hok, _⟩
  obtain ⟨A11, c11, rfl, hr11, hl11, hm11⟩ := hok (by rw [KT])
  rw [show (trimF KG (encB [[1, 2], [3, 0]])).1 = encB [[1, 2], [3, 0]] by rw [KT], KE2l] at hr11 ⊢
  have HB11 := Lib.hid (btr HB10.out hb11)
  have HG11 := Lib.hid (HG10.out.grow hb11)
  have HO11 := Lib.hid (HO10.out.grow hb11)
  have HT11 := Lib.hid (HT10.out.grow hb11)
  have HS11 := Lib.hid hr11
  clear hb11 hok hr11 hl11
  have c0 : (23 : Int) ≤ (c2 : Int) := by omega
  go_wp2_with fail
  refine (decode_any _ 23 c2 ((encB [[0, 1, 2]]).take 23) w11 (HO11.out.first 23 (by omega)) (fun x hx => encB_bytes _ x (List.mem_of_mem_take hx)) (by omega) (by omega) hm2).mono ?_
  rintro e w12 ⟨hb12, _, hbad⟩
  rw [KD3] at hbad
  obtain rfl := hbad (by decide)
  have HB12 := Lib.hid (btr HB11.out hb12)
  have HG12 := Lib.hid (HG11.out.grow hb12)
  have HO12 := Lib.hid (HO11.out.grow hb12)
  have HT12 := Lib.hid (HT11.out.grow hb12)
  have HS12 := Lib.hid (HS11.out.grow hb12)
  clear hb12 hbad
  go_wp2_with fail
  refine (check_any _ 3 3 KG _ 24 c2 (encB [[0, 1, 2]]) w12 HG12.out HO12.out (encB_bytes _) (by omega) (by omega) hl2 hm2 (by simp [KG])).mono ?_
  rw [KC1]
  rintro e w13 ⟨rfl, hb13⟩
  have HB13 := Lib.hid (btr HB12.out hb13)
  have HG13 := Lib.hid (HG12.out.grow hb13)
  have HO13 := Lib.hid (HO12.out.grow hb13)
  have HT13 := Lib.hid (HT12.out.grow hb13)
  have HS13 := Lib.hid (HS12.out.grow hb13)
  clear hb13
  go_wp2_with fail
  refine (check_any _ 3 3 KG _ 32 c4 (encB [[1, 2], [3, 0]]) w13 HG13.out HT13.out (encB_bytes _) (by omega) (by omega) hl4 hm4 (by simp [KG])).mono ?_
  rw [KC2]
  rintro e w14 ⟨rfl, hb14⟩
  have HB14 := Lib.hid (btr HB13.out hb14)
  have HG14 := Lib.hid (HG13.out.grow hb14)
  have HO14 := Lib.hid (HO13.out.grow hb14)
  have HT14 := Lib.hid (HT13.out.grow hb14)
  have HS14 := Lib.hid (HS13.out.grow hb14)
  clear hb14
  go_wp2_with fail
  refine (check_any _ 2 3 [[1], [-1, 2]] _ 24 c2 (encB [[0, 1, 2]]) w14 (HG14.out.first 2 (by omega)) HO14.out (encB_bytes _) (by omega) (by omega) hl2 hm2 (by simp)).mono ?_
  rw [KC3]
  rintro e w15 ⟨rfl, hb15⟩
  have HB15 := Lib.hid (btr HB14.out hb15)
  have HT15 := Lib.hid (HT14.out.grow hb15)
  have HS15 := Lib.hid (HS14.out.grow hb15)
  clear hb15
  go_wp2_with fail
  refine (bytes_any _ _ 32 c11 32 c4 _ _ w15 HS15.out HT15.out).mono ?_
  rintro e w16 ⟨rfl, hD16⟩
  rw [eqB_iff.2 rfl]
  have HB16 := Lib.hid (btr HB15.out (hD16.below _))
  clear hD16
  go_wp2
  go_ret
  exact ⟨rfl, HB16.out⟩
end Go.Proofs.Ytodmkcolamppmaa

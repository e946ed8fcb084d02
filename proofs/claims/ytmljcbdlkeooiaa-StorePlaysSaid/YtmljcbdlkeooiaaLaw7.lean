/-
  What the laws of the store share: the store that is made, what Follow tells, sizes.
-/
import Derived.Test.YtmljcbdlkeooiaaLaw6
import Derived.Test.YtmljcbdlkeooiaaKnown
namespace Go.Proofs.Ytmljcbdlkeooiaa
open Go.RowKit Go.Proofs.PlaitSep Go.Proofs.PlaitPure

theorem sizeGo_ge {most : Int} : ∀ (xss : List (List Int)) (n : Int), n ≤ sizeGo most n xss
  | [], n => Int.le_refl _
  | l :: r, n => by
    unfold sizeGo
    split
    · have := sizeGo_ge (most := most) r (n + l.length); omega
    · exact Int.le_refl _
theorem le_sum_of : ∀ {l : List Nat} {x : Nat}, x ∈ l → x ≤ l.sum
  | y :: r, x, h => by
    rw [List.sum_cons]
    rcases List.mem_cons.1 h with rfl | h
    · omega
    · have := le_sum_of h; omega
theorem sizeF_each {most : Int} {xss : List (List Int)} (h : sizeF xss most ≤ most) (j : Nat) (hj : j < xss.length) : ((gl xss j).length : Int) ≤ most := by
  unfold sizeF at h
  have h1 := sizeGo_sum xss xss.length h
  have h2 : (gl xss j).length ≤ (xss.map List.length).sum := by
    rw [gl_eq xss j hj]
    exact le_sum_of (List.mem_map.2 ⟨_, List.getElem_mem hj, rfl⟩)
  omega
theorem abs_nodup : ∀ {l : List Int}, l.Nodup → (∀ x ∈ l, -x ∉ l) → (l.map Int.natAbs).Nodup
  | [], _, _ => by simp
  | a :: r, hn, ha => by
    rw [List.map_cons, List.nodup_cons]
    rw [List.nodup_cons] at hn
    refine ⟨fun hm => ?_, abs_nodup hn.2 (fun x hx hx' => ha x (by simp [hx]) (by simp [hx']))⟩
    obtain ⟨b, hb, he⟩ := List.mem_map.1 hm
    rcases Int.natAbs_eq_natAbs_iff.1 he with e | e
    · exact hn.1 (e ▸ hb)
    · exact ha a (by simp) (by rw [← e]; simp [hb])
theorem parts_room {l : List Int} (h1 : ∀ x ∈ l, litB x = true) (h2 : l.Nodup) (h3 : ∀ x ∈ l, -x ∉ l) : l.length ≤ 65537 := by
  have := nodup_bound 65537 _ (abs_nodup h2 h3) (fun x hx => by
    obtain ⟨b, hb, rfl⟩ := List.mem_map.1 hx
    have := litB_iff.1 (h1 b hb)
    omega)
  simpa using this
theorem cok_room {C : List (List Int)} (h : COk C) {c : List Int} (hc : c ∈ C) : c.length ≤ 65537 := by
  obtain ⟨h1, h2, h3⟩ := h c hc
  exact parts_room h2 h1 h3
theorem madeS_count (xss : List (List Int)) : (madeS xss).C.length ≤ xss.length := by
  have key : ∀ j, j ≤ xss.length → (madeS (xss.take j)).C.length ≤ j := by
    intro j
    induction j with
    | zero => intro _; simp [madeS, SM.new, SM.C]
    | succ j ih =>
      intro hj
      have h1 := ih (by omega)
      rw [made_snoc (by omega), addF_C]
      split
      · rw [List.length_append]; simp; omega
      · omega
  have := key xss.length (Nat.le_refl _)
  rwa [List.take_length] at this
/-- What made hands back, with all that the laws ask of it. -/
def Made (H : Nat) (w : World) (xss : List (List Int)) (e : Ending) (w' : World) : Prop :=
  ∃ p L S a c W, e = .returned (.tuple #[.pointer (some ⟨p, 0, none⟩), slv a (W : Rows).length c]) ∧ StoreAt H w w' p L S (rowsHP a c W) ∧ W.map (fun x => x.2.2) = S.C ∧ madeS xss = S ∧ S.Inv ∧ W.length ≤ xss.length ∧ ∀ x ∈ W, x.2.2.length ≤ 140737488355328
theorem made_law (A : Option Addr) (n cap : Nat) (xss : List (List Int)) (w : World) (hr : Rd2 w A n xss) (hn : n ≤ 1000000) (hs : ∀ j, j < n → (gl xss j).length ≤ 1000000) :
    Calls Try.prog 22 #[.slice A n cap] w (Made w.heap.size w xss) := by
  refine (made_any A n cap xss w hr hn hs).mono ?_
  rintro e w' ⟨p, L, a, c, W, rfl, h, hC⟩
  have hi := madeS_inv xss
  refine ⟨p, L, _, a, c, W, rfl, h, hC, rfl, hi, ?_, fun x hx => ?_⟩
  · have := madeS_count xss
    rw [← hC, List.length_map] at this
    exact this
  · have := cok_room hi.cok (by rw [← hC]; exact List.mem_map.2 ⟨x, hx, rfl⟩)
    omega
/-- What Follow hands back, with all that the laws ask of it. -/
def Followed (B : Nat) (w0 : World) (p : Nat) (F : HP) (C : List (List Int)) (T : List Int) (e : Ending) (w' : World) : Prop :=
  ∃ out q oa oc L S, e = .returned (.tuple #[slv oa (out : List Int).length oc, .int .i64 q]) ∧ StoreAt B w0 w' p L S (star (sli 3 oa oc out) F) ∧ S.Inv ∧ S.C = C ∧ FollowSpec C T out q ∧ PlaitPure.Told C T out q ∧ out.length ≤ 65537
section
variable {B : Nat} {w0 w : World} {p : Nat} {L : SLay} {S : SM} {F : HP}
theorem follow_law (A : Option Addr) (n c : Nat) (lits : List Int) (C : List (List Int)) (hrd : ∀ w', St B w0 w' F → Rd w' A n lits) (hn : n ≤ 1000000) (h : StoreAt B w0 w p L S F) (hS : S.Inv) (hC : S.C = C) :
    Calls Try.prog 23 #[.pointer (some ⟨p, 0, none⟩), .slice A n c] w (Followed B w0 p F C lits) := by
  subst hC
  obtain ⟨res, hres⟩ := followAll_some S lits hS
  obtain ⟨h1, h2, h3⟩ := followAll_spec hS hres
  have h4 := followAll_told hS hres
  refine (Follow_any fuelN res A n c lits hrd hn h hS hres).mono ?_
  rintro e w' ⟨oa, oc, L', rfl, h5⟩
  exact ⟨_, _, oa, oc, L', res.1, rfl, h5, h1, h2, h3, h4, parts_room h3.lits h3.nodup h3.apart⟩
end
end Go.Proofs.Ytmljcbdlkeooiaa

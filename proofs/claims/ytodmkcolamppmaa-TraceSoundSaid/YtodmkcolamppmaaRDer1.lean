/-
  The contract of plaitref12's resolve.
-/
import Derived.Test.YtodmkcolamppmaaDer5
import Derived.Test.YtodmkcolamppmaaSet
namespace Go.Proofs.Ytodmkcolamppmaa
open Go.RowKit Go.Proofs.PlaitSep Go.Proofs.PlaitPure

/-- What has been found among the first literals: how many, and the last one. -/
def foundC (c d : List Int) (j : Nat) : Nat := (piv (c.take j) d).length
def lastC (c d : List Int) (j : Nat) : Int := match (piv (c.take j) d).getLast? with
  | none => 0
  | some l => l
theorem piv_snoc (c d : List Int) (x : Int) : piv (c ++ [x]) d = if hasB d (-x) then piv c d ++ [x] else piv c d := by
  unfold piv
  rw [List.filter_append]
  cases h : hasB d (-x) <;> simp [h]
theorem foundC_succ {c d : List Int} {j : Nat} (h : j < c.length) : foundC c d (j + 1) = if hasB d (-gi c j) then foundC c d j + 1 else foundC c d j := by
  unfold foundC
  rw [take_gi c j h, piv_snoc]
  split <;> simp
theorem lastC_succ {c d : List Int} {j : Nat} (h : j < c.length) : lastC c d (j + 1) = if hasB d (-gi c j) then gi c j else lastC c d j := by
  unfold lastC
  rw [take_gi c j h, piv_snoc]
  by_cases hb : hasB d (-gi c j) = true
  · rw [if_pos hb, if_pos hb, List.getLast?_concat]
  · rw [if_neg hb, if_neg hb]
theorem without_succ {c : List Int} {x : Int} {j : Nat} (h : j < c.length) : (c.take (j + 1)).filter (fun y => y != x) = if gi c j != x then (c.take j).filter (fun y => y != x) ++ [gi c j] else (c.take j).filter (fun y => y != x) := by
  rw [take_gi c j h, List.filter_append]
  cases hb : gi c j != x <;> simp [hb]
set_option maxRecDepth 100000 in
set_option maxHeartbeats 4000000 in
theorem rresolve_any (A : Option Addr) (n cA : Nat) (c : List Int) (A' : Option Addr) (m cB : Nat) (d : List Int) (w : World) (hr : Rd w A n c) (hr' : Rd w A' m d) (hc : IsSet c) (hd : IsSet d) (hn : n ≤ 400000) (hm : m ≤ 400000) :
    Calls Try.prog 43 #[.slice A n cA, .slice A' m cB] w (ClPost w (resF c d)) := by
  have HR := Lib.hid hr
  have HR' := Lib.hid hr'
  have HC := Lib.hid hc
  have HD := Lib.hid hd
  have HLC := Lib.hid hr.len
  have HLD := Lib.hid hr'.len
  clear hr hr' hc hd
  go_enter Try.func43, Try.ntmps43
  go_wp2
  go_loop [6, 7, 8] (fun v6 v7 v8 => ∃ j : Nat, j ≤ n ∧ v8 = .int .i64 j ∧ (∃ q : Nat, q ≤ j ∧ v7 = .int .i64 q ∧ Hid (foundC c d j = q)) ∧ ∃ x : Int, v6 = .int .i64 x ∧ Hid (lastC c d j = x)) (fun _ _ v8 => n - (intOf v8).toNat)
  case atStart => exact ⟨0, Nat.zero_le _, rfl, ⟨0, Nat.le_refl _, rfl, (rfl : foundC c d 0 = 0)⟩, 0, rfl, (rfl : lastC c d 0 = 0)⟩
  case round =>
    obtain ⟨j, hj, rfl, ⟨q, hq, rfl, HQ⟩, x, rfl, HX⟩ := hrel
    by_cases hjn : j < n
    · obtain ⟨bd, od, hA, hcell⟩ := HR.out.cells (by omega)
      subst hA
      have d1 := hcell j hjn
      have hjc : j < c.length := by rw [HLC.out]; exact hjn
      obtain ⟨l, hl⟩ : ∃ l, gi c j = l := ⟨_, rfl⟩
      rw [hl] at d1
      have hlok : okLit l = true := by rw [← hl, gi_eq c j hjc]; exact HC.out.lits _ (List.getElem_mem _)
      obtain ⟨_, l1, l2⟩ := okLit_iff.1 hlok
      have hwr : IntKind.i64.wrap (-l) = -l := IntWalk.i64_in _ (by omega)
      have hfs := foundC_succ (c := c) (d := d) hjc
      have hls := lastC_succ (c := c) (d := d) hjc
      rw [hl] at hfs hls
      have HFS := Lib.hid hfs
      have HLS := Lib.hid hls
      have j0 : (0 : Int) ≤ (j : Int) := by omega
      have j1 : (j : Int) < (n : Int) := by omega
      clear hcell hjc hl hlok hfs hls
      go_wp2_with fail
      refine (has_any A' m cB d (-l) w HR'.out).mono ?_
      rintro e w' ⟨rfl, rfl⟩
      cases hb : hasB d (-l) with
      | true =>
        have HB := Lib.hid hb
        clear hb
        go_wp2
        go_round
        case rel => exact ⟨j + 1, by omega, by go_num, ⟨q + 1, by omega, by go_num, (by rw [HFS.out, HB.out, HQ.out]; rfl : foundC c d (j + 1) = q + 1)⟩, l, rfl, (by rw [HLS.out, HB.out]; rfl : lastC c d (j + 1) = l)⟩
        case measure => simp [intOf]; omega
      | false =>
        have HB := Lib.hid hb
        clear hb
        go_wp2
        go_round
        case rel => exact ⟨j + 1, by omega, by go_num, ⟨q, by omega, rfl, (by rw [HFS.out, HB.out]; exact HQ.out : foundC c d (j + 1) = q)⟩, x, rfl, (by rw [HLS.out, HB.out]; exact HX.out : lastC c d (j + 1) = x)⟩
        case measure => simp [intOf]; omega
    · obtain rfl : j = n := by omega
      have htk : c.take j = c := List.take_of_length_le (by rw [HLC.out]; exact Nat.le_refl _)
      have hpl : (piv c d).length = q := by have := HQ.out; unfold foundC at this; rwa [htk] at this
      have HPL := Lib.hid hpl
      by_cases hq1 : q = 1
      · subst hq1
        have hone : piv c d = [x] := by
          match hp : piv c d, hpl with
          | [l], _ =>
            have := HX.out
            unfold lastC at this
            rw [htk, hp] at this
            exact congrArg (fun y => [y]) this
        obtain ⟨s, hs1, hs2, hs3⟩ := resF_one HC.out HD.out hone
        have hxm : x ∈ c := (List.mem_filter.1 (show x ∈ piv c d by rw [hone]; simp)).1
        obtain ⟨_, x1, x2⟩ := okLit_iff.1 (HC.out.lits x hxm)
        have hres : setF (resA c d x) = some s := by have := hs1; unfold resF at this; rwa [hone] at this
        have HS1 := Lib.hid hs1
        have HRES := Lib.hid hres
        have hwr : IntKind.i64.wrap (-x) = -x := IntWalk.i64_in _ (by omega)
        have HST0 := Lib.hid (show St w.heap.size w w (star (sli 3 none 0 []) emp) from ⟨Below.refl _ _, Nat.le_refl _, (St.start w).sat.sl_nil _ _⟩)
        clear htk hpl hone hs1 hs2 hs3 hxm hres
        go_wp2
        go_loopw [9, 10] (fun v9 v10 wr => ∃ (i : Nat) (xa : Option Nat) (xc t : Nat) (xs : List Int), i ≤ j ∧ t ≤ i ∧ v10 = .int .i64 i ∧ v9 = .slice (xa.map fun b => ⟨b, 0, none⟩) t xc ∧ Hid (xs.length = t) ∧ Hid (St w.heap.size w wr (star (sli 3 xa xc xs) emp)) ∧ Hid (xs = (c.take i).filter fun y => y != x)) (fun _ v10 _ => j - (intOf v10).toNat)
        case atStart => exact ⟨0, none, 0, 0, [], Nat.zero_le _, Nat.le_refl _, rfl, rfl, (rfl : ([] : List Int).length = 0), HST0.out, (rfl : [] = (c.take 0).filter fun y => y != x)⟩
        case round =>
          obtain ⟨i, xa, xc, t, xs, hi, ht, rfl, rfl, HXL, HST, HXS⟩ := hrel
          by_cases hij : i < j
          · obtain ⟨bd, od, hA, hcell⟩ := (HR.out.grow HST.out.below).cells (by omega)
            subst hA
            have d1 := hcell i hij
            have hws := without_succ (c := c) (x := x) (j := i) (by rw [HLC.out]; exact hij)
            obtain ⟨y, hy⟩ : ∃ y, gi c i = y := ⟨_, rfl⟩
            rw [hy] at d1 hws
            have HWS := Lib.hid hws
            have i0 : (0 : Int) ≤ (i : Int) := by omega
            have i1 : (i : Int) < (j : Int) := by omega
            clear hcell hws hy
            cases hb : y != x with
            | false =>
              have HB := Lib.hid hb
              go_wp2
              go_roundw
              case rel => exact ⟨i + 1, xa, xc, t, xs, by omega, by omega, by go_num, rfl, HXL.out, HST.out, (by rw [HWS.out, HB.out]; exact HXS.out : xs = (c.take (i + 1)).filter fun y => y != x)⟩
              case measure => simp [intOf]; omega
            | true =>
              have HB := Lib.hid hb
              go_wp2_with (at_builtin; refine wpList_append_int rfl _ _ 51 3 rfl Try.underlying51 Try.infoInt HST.out t HXL.out rfl y rfl (by omega) ?_; intro b' cc7 w7 h7; have H7 := Lib.hid h7; clear h7)
              go_roundw
              case rel => exact ⟨i + 1, some b', cc7, t + 1, xs ++ [y], by omega, by omega, by go_num, rfl, (by rw [List.length_append, HXL.out]; rfl : (xs ++ [y]).length = t + 1), H7.out, (by rw [HWS.out, HB.out, HXS.out]; rfl : xs ++ [y] = (c.take (i + 1)).filter fun y => y != x)⟩
              case measure => simp [intOf]; omega
          · obtain rfl : i = j := by omega
            have hxs : xs = c.filter fun y => y != x := by
              have := HXS.out
              rwa [List.take_of_length_le (by rw [HLC.out]; exact Nat.le_refl _)] at this
            have HXF := Lib.hid hxs
            clear hxs HXS
            go_wp2
            go_loopw [9, 11] (fun v9 v11 wr => ∃ (k : Nat) (ya : Option Nat) (yc u : Nat) (ys : List Int), k ≤ m ∧ u ≤ i + k ∧ v11 = .int .i64 k ∧ v9 = .slice (ya.map fun b => ⟨b, 0, none⟩) u yc ∧ Hid (ys.length = u) ∧ Hid (St w.heap.size w wr (star (sli 3 ya yc ys) emp)) ∧ Hid (ys = xs ++ (d.take k).filter fun y => y != -x)) (fun _ v11 _ => m - (intOf v11).toNat)
            case atStart => exact ⟨0, xa, xc, t, xs, Nat.zero_le _, by omega, rfl, rfl, HXL.out, HST.out, (by simp : xs = xs ++ (d.take 0).filter fun y => y != -x)⟩
            case round =>
              obtain ⟨k, ya, yc, u, ys, hk, hu, rfl, rfl, HYL, HST2, HYS⟩ := hrel
              by_cases hkm : k < m
              · obtain ⟨bd, od, hA, hcell⟩ := (HR'.out.grow HST2.out.below).cells (by omega)
                subst hA
                have d1 := hcell k hkm
                have hws := without_succ (c := d) (x := -x) (j := k) (by rw [HLD.out]; exact hkm)
                obtain ⟨y, hy⟩ : ∃ y, gi d k = y := ⟨_, rfl⟩
                rw [hy] at d1 hws
                have HWS := Lib.hid hws
                have k0 : (0 : Int) ≤ (k : Int) := by omega
                have k1 : (k : Int) < (m : Int) := by omega
                clear hcell hws hy
                cases hb : y != -x with
                | false =>
                  have HB := Lib.hid hb
                  go_wp2
                  go_roundw
                  case rel => exact ⟨k + 1, ya, yc, u, ys, by omega, by omega, by go_num, rfl, HYL.out, HST2.out, (by rw [HWS.out, HB.out]; exact HYS.out : ys = xs ++ (d.take (k + 1)).filter fun y => y != -x)⟩
                  case measure => simp [intOf]; omega
                | true =>
                  have HB := Lib.hid hb
                  go_wp2_with (at_builtin; refine wpList_append_int rfl _ _ 51 3 rfl Try.underlying51 Try.infoInt HST2.out u HYL.out rfl y rfl (by omega) ?_; intro b' cc7 w7 h7; have H7 := Lib.hid h7; clear h7)
                  go_roundw
                  case rel => exact ⟨k + 1, some b', cc7, u + 1, ys ++ [y], by omega, by omega, by go_num, rfl, (by rw [List.length_append, HYL.out]; rfl : (ys ++ [y]).length = u + 1), H7.out, (by rw [HWS.out, HB.out, HYS.out, List.append_assoc]; rfl : ys ++ [y] = xs ++ (d.take (k + 1)).filter fun y => y != -x)⟩
                  case measure => simp [intOf]; omega
              · obtain rfl : k = m := by omega
                have hys : ys = resA c d x := by
                  have := HYS.out
                  rw [List.take_of_length_le (by rw [HLD.out]; exact Nat.le_refl _), HXF.out] at this
                  exact this
                have hset : setF ys = some s := by rw [hys]; exact HRES.out
                have HSET := Lib.hid hset
                have hrd := St.rd HST2.out (by rw [HYL.out]; omega)
                rw [HYL.out] at hrd
                have HRY := Lib.hid hrd
                clear hys hset hrd HYS
                go_wp2_with fail
                refine (set_any _ u yc ys _ HRY.out (by omega)).mono ?_
                rintro e w9 hpost
                obtain ⟨a9, c9, rfl, hst9⟩ := hpost.1 s HSET.out
                have hlen := setF_len HSET.out
                rw [HYL.out] at hlen
                have hrd9 := St.rd (hst9.conseq (star_emp _).symm) (by omega)
                have HRD9 := Lib.hid hrd9
                have HB9 := Lib.hid (HST2.out.below.trans (hst9.below.mono HST2.out.below.size))
                obtain ⟨sl, hsl⟩ : ∃ sl, s.length = sl := ⟨_, rfl⟩
                have HSL := Lib.hid hsl
                unfold slv
                rw [hsl]
                clear hpost hst9 hlen hrd9 hsl
                go_wp2
                go_ret2
                refine ⟨HB9.out, fun s' hs' => ?_, fun h => (by rw [HS1.out] at h; cases h)⟩
                rw [HS1.out] at hs'
                cases hs'
                exact ⟨_, c9, by rw [HSL.out]; rfl, HRD9.out⟩
      · have e0 : ((q : Int) != 1) = true := by simp; omega
        have hno := resF_not (c := c) (d := d) (by rw [HPL.out]; exact hq1)
        have HN := Lib.hid hno
        clear htk hpl hno
        go_wp2
        go_ret2
        exact clPost_none (Below.refl _ _) HN.out
end Go.Proofs.Ytodmkcolamppmaa

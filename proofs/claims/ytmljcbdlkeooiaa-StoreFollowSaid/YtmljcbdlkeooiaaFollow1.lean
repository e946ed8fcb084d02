/-
  StoreFollow: the walk of the law.
-/
import Derived.Test.YtmljcbdlkeooiaaLaw7
namespace Go.Proofs.Ytmljcbdlkeooiaa
open Go.RowKit Go.Proofs.PlaitSep Go.Proofs.PlaitPure

set_option maxRecDepth 100000 in
set_option maxHeartbeats 4000000 in
theorem storeFollow_any (A : Option Addr) (n cap : Nat) (xss : List (List Int)) (A' : Option Addr) (m cap' : Nat) (lits : List Int) (w : World) (hr : Rd2 w A n xss) (hr' : Rd w A' m lits) :
    Calls Try.prog 4 #[.slice A n cap, .slice A' m cap'] w fun e w' => e = .returned (.bool true) ∧ Below w.heap.size w w' := by
  have hs := hr.small
  have hs' := hr'.small
  have HR := Lib.hid hr
  have HR' := Lib.hid hr'
  clear hr hr'
  obtain ⟨z, hz⟩ : ∃ z, sizeF xss 800 = z := ⟨_, rfl⟩
  have hsize := fun w0 (h : Rd2 w0 A n xss) => size_any A n cap xss 800 w0 h (by omega) (by omega)
  rw [hz] at hsize
  have HSZ := Lib.hid hsize
  have HZ := Lib.hid hz
  clear hsize hz
  go_enter Try.func4, Try.ntmps4
  go_wp2_with fail
  refine (known_any w).mono ?_
  rintro e w1 ⟨rfl, hb1⟩
  have HB1 := Lib.hid hb1
  have HR1 := Lib.hid (HR.out.grow hb1)
  have HR1' := Lib.hid (HR'.out.grow hb1)
  clear hb1
  by_cases hz1 : 800 < z
  · have hd : decide (800 < z) = true := by simpa using hz1
    go_wp2_with fail
    refine (HSZ.out _ HR1.out).mono ?_
    rintro e w2 ⟨rfl, rfl⟩
    go_wp2
    go_ret
    exact ⟨rfl, HB1.out⟩
  have hd1 : decide (800 < z) = false := by simpa using hz1
  by_cases hn1 : 150 < n
  · have hd2 : decide (150 < (n : Int)) = true := by simp; omega
    go_wp2_with fail
    refine (HSZ.out _ HR1.out).mono ?_
    rintro e w2 ⟨rfl, rfl⟩
    go_wp2
    go_ret
    exact ⟨rfl, HB1.out⟩
  have hd2 : decide (150 < (n : Int)) = false := by simp; omega
  by_cases hm1 : 60 < m
  · have hd3 : decide (60 < (m : Int)) = true := by simp; omega
    go_wp2_with fail
    refine (HSZ.out _ HR1.out).mono ?_
    rintro e w2 ⟨rfl, rfl⟩
    go_wp2
    go_ret
    exact ⟨rfl, HB1.out⟩
  have hd3 : decide (60 < (m : Int)) = false := by simp; omega
  go_wp2_with fail
  refine (HSZ.out _ HR1.out).mono ?_
  rintro e w2 ⟨rfl, rfl⟩
  go_wp2_with fail
  have HE := Lib.hid (show ∀ j, j < n → (gl xss j).length ≤ 1000000 from fun j hj => by
    have := sizeF_each (xss := xss) (most := 800) (by rw [HZ.out]; omega) j (by rw [HR.out.len]; exact hj)
    omega)
  refine (made_law A n cap xss w1 HR1.out (by omega) HE.out).mono ?_
  rintro e w3 ⟨p, L, S, a, c, W, rfl, h3, hC, hSS, hS, hCn, hWs⟩
  obtain ⟨k, hk⟩ : ∃ k, W.length = k := ⟨_, rfl⟩
  rw [hk] at hCn ⊢
  have hkn : k ≤ n := by rw [HR.out.len] at hCn; exact hCn
  have H3 := Lib.hid h3
  have HC := Lib.hid hC
  have HS := Lib.hid hS
  have HK := Lib.hid hk
  have HWS := Lib.hid hWs
  have HR3' := Lib.hid (HR1'.out.grow h3.st.below)
  clear h3 hC hS hk hCn hSS hWs
  unfold slv
  go_wp2_with fail
  refine (copyInts_any A' m cap' lits w3 HR3'.out (by omega)).mono ?_
  rintro e w4 ⟨ca, cc, rfl, k4⟩
  have h4 : StoreAt w1.heap.size w1 w4 p L S (star (sli 3 ca cc lits) (rowsHP a c W)) := ⟨(H3.out.st.nest k4).conseq (by ac_rfl), H3.out.ws⟩
  have H4 := Lib.hid h4
  clear k4 h4
  unfold slv
  go_wp2_with fail
  have HRL := Lib.hid (show ∀ w', St w1.heap.size w1 w' (star (sli 3 ca cc lits) (rowsHP a c W)) → Rd w' (ca.map fun b => ⟨b, 0, none⟩) m lits from fun w' hh => by
    have := St.rd hh (by have := HR'.out.len; omega)
    rwa [HR'.out.len] at this)
  refine (follow_law _ m cc lits S.C HRL.out (by omega) H4.out HS.out rfl).mono ?_
  rintro e w5 ⟨out, q, oa, oc, L5, S5, rfl, h5, hS5, hC5, hspec, _, hob⟩
  obtain ⟨ol, hol⟩ : ∃ ol, out.length = ol := ⟨_, rfl⟩
  rw [hol] at hob ⊢
  have hrin : Rd w5 (ca.map fun b => ⟨b, 0, none⟩) m lits := by
    have := St.rd (h5.st.conseq (show _ = star (sli 3 ca cc lits) (star (star (storeHP p L5 S5) (sli 3 oa oc out)) (rowsHP a c W)) by ac_rfl)) (by have := HR'.out.len; omega)
    rwa [HR'.out.len] at this
  have hrout : Rd w5 (oa.map fun b => ⟨b, 0, none⟩) ol out := by
    have := St.rd (h5.st.conseq (show _ = star (sli 3 oa oc out) (star (star (storeHP p L5 S5) (sli 3 ca cc lits)) (rowsHP a c W)) by ac_rfl)) (by omega)
    rwa [hol] at this
  have hrall : Rd2 w5 (a.map fun b => ⟨b, 0, none⟩) k S.C := by
    have := rows_rd (h5.st.conseq (show _ = star (rowsHP a c W) (star (star (storeHP p L5 S5) (sli 3 ca cc lits)) (sli 3 oa oc out)) by ac_rfl)) HWS.out (by rw [HK.out]; omega)
    rwa [HC.out, HK.out] at this
  have hrl5 := HR1'.out.grow h5.st.below
  have hocs : ol ≤ oc ∧ oc ≤ maxLen := by
    have := St.sat (h5.st.conseq (show _ = star (sl oa out.length oc 3 1 (ints out)) (star (star (storeHP p L5 S5) (sli 3 ca cc lits)) (rowsHP a c W)) by unfold sli; ac_rfl))
    obtain ⟨_, h1, h2, _⟩ := this.sl_facts
    rw [hol] at h1
    exact ⟨h1, h2⟩
  obtain ⟨hoc1, hoc2⟩ := hocs
  unfold maxLen at hoc2
  have H5 := Lib.hid h5
  have HS5 := Lib.hid hS5
  have HC5 := Lib.hid hC5
  have HSPEC := Lib.hid hspec
  have HCOK := Lib.hid HS.out.cok
  have HOL := Lib.hid hol
  have HRIN := Lib.hid hrin
  have HROUT := Lib.hid hrout
  have HRALL := Lib.hid hrall
  have HRL5 := Lib.hid hrl5
  clear h5 hS5 hC5 hspec hol hrin hrout hrall hrl5 HRL HE
  unfold slv
  go_wp2_with fail
  have hin := ints_any _ A' m cc m cap' lits lits w5 HRIN.out HRL5.out
  rw [show eqB lits lits = true by simp [eqB]] at hin
  refine hin.mono ?_
  rintro e w6 ⟨rfl, hD⟩
  obtain ⟨Ao, hAo⟩ : ∃ Ao : Option Addr, oa.map (fun b => (⟨b, 0, none⟩ : Addr)) = Ao := ⟨_, rfl⟩
  obtain ⟨Aa, hAa⟩ : ∃ Aa : Option Addr, a.map (fun b => (⟨b, 0, none⟩ : Addr)) = Aa := ⟨_, rfl⟩
  have hrout := HROUT.out.drawn hD
  have hrall := HRALL.out.heap hD.heap
  rw [hAo] at hrout ⊢
  rw [hAa] at hrall ⊢
  have HAO := Lib.hid hAo
  have H6 := Lib.hid (H5.out.drawn hD)
  have HRO := Lib.hid hrout
  have HRA := Lib.hid hrall
  have HRL := Lib.hid (HRL5.out.drawn hD)
  clear hD hin HRIN HROUT HRALL HRL5 hrout hrall hAo hAa
  go_wp2
  go_loopw [10] (fun v wr => ∃ i : Nat, i ≤ ol ∧ v = .int .i64 i ∧ Drawn w6 wr) (fun v _ => ol - (intOf v).toNat)
  case atStart => exact ⟨0, Nat.zero_le _, rfl, Drawn.refl _⟩
  case round =>
    obtain ⟨i, hi, rfl, hD⟩ := hrel
    by_cases hil : i < ol
    · have hat := outAt_of HSPEC.out HCOK.out (i := i) (by rw [HOL.out]; exact hil)
      obtain ⟨y, hy⟩ : ∃ y, gi out i = y := ⟨_, rfl⟩
      obtain ⟨pre, hpre⟩ : ∃ pre, out.take i = pre := ⟨_, rfl⟩
      obtain ⟨bo, oo, rfl, hc⟩ := (HRO.out.drawn hD).cells (by omega)
      have d1 := hc i hil
      have hrp := rd_take (HRO.out.drawn hD) (i := i) (by omega)
      obtain ⟨x1, x2, x3, x4⟩ := hat
      rw [hy] at d1 x1 x2 x3 x4
      rw [hpre] at x2 x3 x4 hrp
      obtain ⟨_, y2, y3⟩ := litB_iff.1 x1
      have HP := Lib.hid (show Rd w6 (some ⟨bo, oo, none⟩) i pre from hpre ▸ rd_take HRO.out (i := i) (by omega))
      have HPD := Lib.hid hD
      have HW := Lib.hid x4
      have hwr : IntKind.i64.wrap (-y) = -y := IntWalk.i64_in _ (by omega)
      have hh : ∀ x k, Calls Try.prog 24 #[.slice (some ⟨bo, oo, none⟩) i oc, .int .i64 x] (wr.drewN k) fun e w' => e = .returned (.bool (hasB pre x)) ∧ wr.drewN k = w' := fun x k => has_any _ i oc pre x _ (HP.out.drawn (HPD.out.step k))
      have HH := Lib.hid hh
      have HY := Lib.hid hy
      clear hc hrp x1 x4 hpre hh hy
      have hi0 : (0 : Int) ≤ (i : Int) := by omega
      have hi1 : (i : Int) ≤ (oc : Int) := by omega
      have hi2 : (i : Int) < (ol : Int) := by omega
      have hi3 : i ≤ oc := by omega
      go_wp2
      go_quiet ((go_at_call 24; exact quietW (HH.out _)))
      have hD7 := hD.step nq
      obtain ⟨w7, hw7⟩ : ∃ w7, wr.drewN nq = w7 := ⟨_, rfl⟩
      rw [hw7] at hD7 ⊢
      have d7 : w7.cell? ⟨bo, oo + i, none⟩ = some (.int .i64 y) := by rw [← hw7]; exact d1
      clear hw7 d1 x2 x3 HH hD
      obtain ⟨b1, hb1⟩ : ∃ b1, hasB lits y = b1 := ⟨_, rfl⟩
      have hhas := has_any A' m cap' lits y w7 (HRL.out.drawn hD7)
      rw [hb1] at hhas
      have HB1' := Lib.hid hb1
      clear hb1
      have HD7 := Lib.hid hD7
      clear hD7
      go_wp2_with fail
      refine hhas.mono ?_
      rintro e w8 ⟨rfl, rfl⟩
      clear hhas
      go_wp2
      go_loopw [11, 12] (fun v11 v12 ws => ∃ (j : Nat) (b : Bool), j ≤ k ∧ v11 = .bool b ∧ v12 = .int .i64 j ∧ Hid (b = false → b1 = false ∧ ∀ j', j' < j → whyB S.C pre y j' = false) ∧ Drawn w7 ws) (fun _ v12 _ => k - (intOf v12).toNat)
      case atStart => exact ⟨0, b1, Nat.zero_le _, rfl, rfl, (fun h => ⟨h, fun j' hj' => absurd hj' (Nat.not_lt_zero _)⟩ : b1 = false → _), Drawn.refl _⟩
      case round =>
        obtain ⟨j, b, hj, rfl, rfl, HF, hDs⟩ := hrel
        have hD6 := HD7.out.trans hDs
        by_cases hb : b = true
        · subst hb
          by_cases hjk : j < k
          all_goals
            go_wp2
            go_roundw
            case rel => exact ⟨i + 1, by omega, by go_num, hD6⟩
            case measure => simp [intOf]; omega
        · have hb : b = false := by simpa using hb
          subst hb
          by_cases hjk : j < k
          · obtain ⟨ab, ao, rfl, hc⟩ := (HRA.out.heap hD6.heap).cells (by omega)
            obtain ⟨Aj, cj, d1, hrj⟩ := hc j hjk
            clear hc
            obtain ⟨cl, hcl⟩ : ∃ cl, gl S.C j = cl := ⟨_, rfl⟩
            obtain ⟨cn, hcn⟩ : ∃ cn, cl.length = cn := ⟨_, rfl⟩
            rw [hcl, hcn] at d1 hrj
            have hclm : cl ∈ S.C := by rw [← hcl, gl_eq _ _ (by have := HRA.out.len; omega)]; exact List.getElem_mem _
            have hcr := cok_room HCOK.out hclm
            obtain ⟨lf, hlf⟩ : ∃ lf, leftF cl pre = lf := ⟨_, rfl⟩
            have hleft : ∀ V, Drawn wr V → Calls Try.prog 25 #[.slice Aj cn cj, .slice (some ⟨bo, oo, none⟩) i oc] V fun e w' => e = .returned (.tuple #[.bool lf.1, .int .i64 lf.2]) ∧ V = w' := fun V hV => by
              have := left_any Aj (some ⟨bo, oo, none⟩) cn cj i oc cl pre V (hrj.drawn hV) (HP.out.drawn (hD6.trans hV)) (HCOK.out cl hclm).2.1 (by omega)
              rwa [hlf] at this
            have hwhy : whyB S.C pre y j = (!lf.1 && lf.2 == 1 && hasB cl y) := by unfold whyB; rw [hcl, hlf]
            obtain ⟨l1, l2⟩ := lf
            simp only at hleft hwhy
            obtain ⟨b3, hb3⟩ : ∃ b3, hasB cl y = b3 := ⟨_, rfl⟩
            rw [hb3] at hwhy
            have hhas2 : ∀ V, Drawn wr V → Calls Try.prog 24 #[.slice Aj cn cj, .int .i64 y] V fun e w' => e = .returned (.bool b3) ∧ V = w' := fun V hV => by
              have := has_any Aj cn cj cl y V (hrj.drawn hV)
              rwa [hb3] at this
            have HLEFT := Lib.hid hleft
            have HHAS2 := Lib.hid hhas2
            have HWHY := Lib.hid hwhy
            have d7' : wr.cell? ⟨bo, oo + i, none⟩ = some (.int .i64 y) := by
              have hcc := (HRO.out.drawn hD6).cell hil
              rwa [HY.out] at hcc
            clear hcl hcn hlf hb3 hleft hhas2 hwhy hrj hclm hcr
            have hj0 : (0 : Int) ≤ (j : Int) := by omega
            have hj1 : (j : Int) < (k : Int) := by omega
            go_wp2
            go_quiet ((go_at_call 25; exact quietW fun t => HLEFT.out _ ⟨t, rfl⟩))
            obtain ⟨w9, hw9⟩ : ∃ w9, wr.drewN nq = w9 := ⟨_, rfl⟩
            have hD9 : Drawn wr w9 := ⟨nq, hw9.symm⟩
            have HD9 := Lib.hid hD9
            rw [hw9]
            have d9 : w9.cell? ⟨bo, oo + i, none⟩ = some (.int .i64 y) := by rw [← hw9]; exact d7'
            have d9' : w9.cell? ⟨ab, ao + j, none⟩ = some (.slice Aj cn cj) := by rw [← hw9]; exact d1
            have HDS := Lib.hid (hDs.trans hD9)
            clear hw9 d7' d1 hD9 hDs hD6
            have hfin : ∀ b', whyB S.C pre y j = b' → b' = false → b1 = false ∧ ∀ j', j' < j + 1 → whyB S.C pre y j' = false := fun b' h1 h2 => ⟨(by first | exact HF.out trivial | exact HF.out rfl : b1 = false ∧ ∀ j', j' < j → whyB S.C pre y j' = false).1, fun j' hj' => by
              by_cases e : j' = j
              · rw [e, h1, h2]
              · exact (by first | exact HF.out trivial | exact HF.out rfl : b1 = false ∧ ∀ j', j' < j → whyB S.C pre y j' = false).2 j' (by omega)⟩
            have HFIN := Lib.hid hfin
            clear hfin
            cases l1 with
            | true =>
              go_wp2
              go_quiet ((go_at_call 24; exact quietW fun t => HHAS2.out _ (HD9.out.step t)))
              go_wp2
              go_roundw
              case rel => exact ⟨j + 1, false, by omega, rfl, by go_num, (HFIN.out false (by rw [HWHY.out]; rfl) : false = false → _), HDS.out.step _⟩
              case measure => simp [intOf]; omega
            | false =>
              by_cases hl2 : l2 = 1
              · subst hl2
                go_wp2
                go_quiet ((go_at_call 24; exact quietW fun t => HHAS2.out _ (HD9.out.step t)))
                go_wp2
                go_roundw
                case rel => exact ⟨j + 1, b3, by omega, rfl, by go_num, (HFIN.out b3 (by rw [HWHY.out]; simp) : b3 = false → _), HDS.out.step _⟩
                case measure => simp [intOf]; omega
              · have hd4 : ((l2 : Int) == 1) = false := by simp; omega
                have hd5 : (l2 == 1) = false := by simpa using hl2
                go_wp2
                go_quiet ((go_at_call 24; exact quietW fun t => HHAS2.out _ (HD9.out.step t)))
                go_wp2
                go_roundw
                case rel => exact ⟨j + 1, false, by omega, rfl, by go_num, (HFIN.out false (by rw [HWHY.out, hd5]; rfl) : false = false → _), HDS.out.step _⟩
                case measure => simp [intOf]; omega
          · exfalso
            obtain ⟨f1, f2⟩ := HF.out rfl
            rcases HW.out with h | ⟨k', hk', h⟩
            · rw [HB1'.out, f1] at h; cases h
            · rw [f2 k' (by have := HRA.out.len; omega)] at h; cases h
    · obtain rfl : i = ol := by omega
      have H7 := Lib.hid (H6.out.drawn hD)
      have HRO7 := Lib.hid (HRO.out.drawn hD)
      have HRA7 := Lib.hid (HRA.out.heap hD.heap)
      have HRL7 := Lib.hid (HRL.out.drawn hD)
      have HHAS := Lib.hid (show ∀ x, Calls Try.prog 24 #[.slice Ao i oc, .int .i64 x] wr fun e w' => e = .returned (.bool (hasB out x)) ∧ wr = w' from fun x => has_any _ i oc out x wr (HRO.out.drawn hD))
      have hsr := HSPEC.out.range
      clear hD HRO HRA HRL H6 H5
      by_cases hq : 0 ≤ q
      · have hdq : decide (0 ≤ q) = true := by simpa using hq
        obtain ⟨cl, hcl, hall⟩ := HSPEC.out.bad hq
        have hql : q.toNat < S.C.length := (List.getElem?_eq_some_iff.1 hcl).1
        have hclm : cl ∈ S.C := List.mem_of_getElem? hcl
        have hlf := leftF_none hall HSPEC.out.apart
        have hcx : (S5.cl q.toNat).lits = cl := by
          have h1 : q.toNat < S5.cls.length := by rw [← S5.C_length, HC5.out]; exact hql
          have := S5.C_at h1
          rw [HC5.out, hcl] at this
          exact (Option.some.inj this).symm
        have hcl2 := Clause_in q.toNat cl H7.out HS5.out (by rw [← S5.C_length, HC5.out]; exact hql) hcx q (by omega)
        have HCL := Lib.hid hcl2
        have hcr := cok_room HCOK.out hclm
        have HLF := Lib.hid hlf
        have HLITS := Lib.hid (HCOK.out cl hclm).2.1
        clear hcl2 hall hlf hcl hql hclm hcx
        obtain ⟨cn, hcn⟩ : ∃ cn, cl.length = cn := ⟨_, rfl⟩
        have HCN := Lib.hid hcn
        rw [hcn] at hcr
        clear hcn
        go_wp2_with fail
        refine HCL.out.mono ?_
        rintro e w7 ⟨xa, xc, rfl, h7⟩
        rw [HCN.out]
        have H8 := Lib.hid h7
        have hrx : Rd w7 (xa.map fun b => ⟨b, 0, none⟩) cn cl := by
          have := St.rd (h7.st.conseq (show _ = star (sli 3 xa xc cl) (star (storeHP p L5 S5) (star (sli 3 oa oc out) (star (sli 3 ca cc lits) (rowsHP a c W)))) by ac_rfl)) (by rw [HCN.out]; omega)
          rwa [HCN.out] at this
        have hrout : Rd w7 Ao i out := by
          have := St.rd (h7.st.conseq (show _ = star (sli 3 oa oc out) (star (storeHP p L5 S5) (star (sli 3 xa xc cl) (star (sli 3 ca cc lits) (rowsHP a c W)))) by ac_rfl)) (by rw [HOL.out]; omega)
          rwa [HOL.out, HAO.out] at this
        have hlv := left_any _ Ao cn xc i oc cl out w7 hrx hrout HLITS.out (by omega)
        rw [HLF.out] at hlv
        have HLV := Lib.hid hlv
        clear h7 hrx hrout hlv
        unfold slv
        go_wp2_with fail
        refine HLV.out.mono ?_
        rintro e w8 ⟨rfl, rfl⟩
        go_wp2
        go_ret
        exact ⟨rfl, HB1.out.trans (H8.out.st.below.mono HB1.out.size)⟩
      · have hdq : decide (0 ≤ q) = false := by simpa using hq
        have HFULL := Lib.hid (HSPEC.out.full (by omega))
        go_wp2
        go_loop [19] (fun v19 => ∃ j : Nat, j ≤ k ∧ v19 = .int .i64 j) (fun v19 => k - (intOf v19).toNat)
        case atStart => exact ⟨0, Nat.zero_le _, rfl⟩
        case round =>
          obtain ⟨j, hj, rfl⟩ := hrel
          by_cases hjk : j < k
          · obtain ⟨ab, ao, rfl, hc⟩ := HRA7.out.cells (by omega)
            obtain ⟨Aj, cj, d1, hrj⟩ := hc j hjk
            clear hc
            obtain ⟨cl, hcl⟩ : ∃ cl, gl S.C j = cl := ⟨_, rfl⟩
            obtain ⟨cn, hcn⟩ : ∃ cn, cl.length = cn := ⟨_, rfl⟩
            rw [hcl, hcn] at d1 hrj
            have hclm : cl ∈ S.C := by rw [← hcl, gl_eq _ _ (by have := HRA7.out.len; omega)]; exact List.getElem_mem _
            have hcr := cok_room HCOK.out hclm
            have hlv := left_any Aj Ao cn cj i oc cl out wr hrj HRO7.out (HCOK.out cl hclm).2.1 (by omega)
            have hf := leftF_full HFULL.out hclm
            obtain ⟨lf, hlf⟩ : ∃ lf, leftF cl out = lf := ⟨_, rfl⟩
            rw [hlf] at hlv hf
            obtain ⟨l1, l2⟩ := lf
            simp only at hlv
            have HLV := Lib.hid hlv
            clear hlv hcr hclm hrj hcn hcl hlf
            have hj0 : (0 : Int) ≤ (j : Int) := by omega
            have hj1 : (j : Int) < (k : Int) := by omega
            cases l1 with
            | true =>
              clear hf
              go_wp2_with fail
              refine HLV.out.mono ?_
              rintro e w8 ⟨rfl, rfl⟩
              go_wp2
              go_round
              case rel => exact ⟨j + 1, by omega, by go_num⟩
              case measure => simp [intOf]; omega
            | false =>
              have hl2 : 2 ≤ l2 := by
                rcases hf with h | ⟨m', h, h'⟩
                · cases h
                · cases h; exact h'
              have hd6 : decide ((l2 : Int) < 2) = false := by simp; omega
              clear hf
              go_wp2_with fail
              refine HLV.out.mono ?_
              rintro e w8 ⟨rfl, rfl⟩
              go_wp2
              go_round
              case rel => exact ⟨j + 1, by omega, by go_num⟩
              case measure => simp [intOf]; omega
          · by_cases hq1 : q = -1
            · subst hq1
              have HALL := Lib.hid (HSPEC.out.all rfl)
              go_wp2
              go_loop [22] (fun v22 => ∃ t : Nat, t ≤ m ∧ v22 = .int .i64 t) (fun v22 => m - (intOf v22).toNat)
              case atStart => exact ⟨0, Nat.zero_le _, rfl⟩
              case round =>
                obtain ⟨t, ht, rfl⟩ := hrel
                by_cases htm : t < m
                · obtain ⟨bl, ol', rfl, hc⟩ := HRL7.out.cells (by omega)
                  have d1 := hc t htm
                  clear hc
                  have hx : hasB out (gi lits t) = true := hasB_iff.2 (HALL.out _ (getL_mem (by have := HRL7.out.len; omega)))
                  obtain ⟨x, hxx⟩ : ∃ x, gi lits t = x := ⟨_, rfl⟩
                  rw [hxx] at d1 hx
                  have hv := HHAS.out x
                  rw [hx] at hv
                  have HV := Lib.hid hv
                  clear hx hxx hv
                  have ht0 : (0 : Int) ≤ (t : Int) := by omega
                  have ht1 : (t : Int) < (m : Int) := by omega
                  go_wp2_with fail
                  refine HV.out.mono ?_
                  rintro e w8 ⟨rfl, rfl⟩
                  go_wp2
                  go_round
                  case rel => exact ⟨t + 1, by omega, by go_num⟩
                  case measure => simp [intOf]; omega
                · go_wp2
                  go_ret
                  exact ⟨rfl, HB1.out.trans (H7.out.st.below.mono HB1.out.size)⟩
            · have hq2 : q = -2 := by omega
              subst hq2
              obtain ⟨pre, x, post, hT, hpre, hx⟩ := HSPEC.out.two rfl
              have HT := Lib.hid hT
              have HPRE := Lib.hid hpre
              have HX := Lib.hid hx
              have hpl : pre.length < m := by have := HRL7.out.len; rw [hT] at this; simp at this; omega
              obtain ⟨pn, hpn⟩ : ∃ pn, pre.length = pn := ⟨_, rfl⟩
              rw [hpn] at hpl
              have HPN := Lib.hid hpn
              clear hT hpre hx hpn hq1
              go_wp2
              go_loop [23, 24] (fun v23 v24 => ∃ t : Nat, t ≤ pn ∧ v23 = .int .i64 t) (fun v23 _ => m - (intOf v23).toNat)
              case atStart => exact ⟨0, Nat.zero_le _, rfl⟩
              case round =>
                obtain ⟨t, ht, rfl⟩ := hrel
                have htm : t < m := by omega
                obtain ⟨bl, ol', rfl, hc⟩ := HRL7.out.cells (by omega)
                have d1 := hc t htm
                clear hc
                have ht0 : (0 : Int) ≤ (t : Int) := by omega
                have ht1 : (t : Int) < (m : Int) := by omega
                by_cases htp : t < pn
                · have hin : gi lits t ∈ pre := by
                    rw [HT.out]
                    have : gi (pre ++ x :: post) t = gi pre t := by simp [gi, List.getD_eq_getElem?_getD, List.getElem?_append_left (show t < pre.length by rw [HPN.out]; exact htp)]
                    rw [this]
                    exact getL_mem (by rw [HPN.out]; exact htp)
                  obtain ⟨y, hy⟩ : ∃ y, gi lits t = y := ⟨_, rfl⟩
                  rw [hy] at d1 hin
                  have hyo := HPRE.out y hin
                  obtain ⟨y1, y2, y3⟩ := litB_iff.1 (HSPEC.out.lits y hyo)
                  have hv1 := HHAS.out y
                  rw [hasB_iff.2 hyo] at hv1
                  have hv2 := HHAS.out (-y)
                  rw [hasB_false.2 (HSPEC.out.apart y hyo)] at hv2
                  have HV1 := Lib.hid hv1
                  have HV2 := Lib.hid hv2
                  have e1 : (y == 0) = false := by simpa using y1
                  have e2 : decide (65536 < y) = false := by simp; omega
                  have e3 : decide (y < -65536) = false := by simp; omega
                  clear hv1 hv2 hyo hin hy y1
                  go_wp2_with fail
                  refine HV2.out.mono ?_
                  rintro e w8 ⟨rfl, rfl⟩
                  go_wp2_with fail
                  refine HV1.out.mono ?_
                  rintro e w8 ⟨rfl, rfl⟩
                  go_wp2
                  go_round
                  case rel => exact ⟨t + 1, by omega, by go_num⟩
                  case measure => simp [intOf]; omega
                · have hgx : gi lits t = x := by
                    rw [HT.out]
                    have : t = pre.length := by rw [HPN.out]; omega
                    rw [this]
                    simp [gi, List.getD_eq_getElem?_getD]
                  rw [hgx] at d1
                  clear hgx
                  by_cases x1 : x = 0
                  · have e1 : (x == 0) = true := by simpa using x1
                    clear x1
                    go_wp2
                    go_ret
                    exact ⟨rfl, HB1.out.trans (H7.out.st.below.mono HB1.out.size)⟩
                  have e1 : (x == 0) = false := by simpa using x1
                  by_cases x2 : 65536 < x
                  · have e2 : decide (65536 < x) = true := by simpa using x2
                    clear x1
                    go_wp2
                    go_ret
                    exact ⟨rfl, HB1.out.trans (H7.out.st.below.mono HB1.out.size)⟩
                  have e2 : decide (65536 < x) = false := by simpa using x2
                  by_cases x3 : x < -65536
                  · have e3 : decide (x < -65536) = true := by simpa using x3
                    clear x1
                    go_wp2
                    go_ret
                    exact ⟨rfl, HB1.out.trans (H7.out.st.below.mono HB1.out.size)⟩
                  have e3 : decide (x < -65536) = false := by simpa using x3
                  have hmo : -x ∈ out := by
                    rcases HX.out with h | h
                    · exact absurd (litB_iff.2 ⟨x1, by omega, by omega⟩) (by rw [h]; simp)
                    · exact h
                  have hv2 := HHAS.out (-x)
                  rw [hasB_iff.2 hmo] at hv2
                  have HV2 := Lib.hid hv2
                  have x4 : -65536 ≤ x := by omega
                  have x5 : x ≤ 65536 := by omega
                  clear hv2 hmo x1 x2 x3
                  go_wp2_with fail
                  refine HV2.out.mono ?_
                  rintro e w8 ⟨rfl, rfl⟩
                  go_wp2
                  go_ret
                  exact ⟨rfl, HB1.out.trans (H7.out.st.below.mono HB1.out.size)⟩
end Go.Proofs.Ytmljcbdlkeooiaa

/-
  The contract of a run's follow.
-/
import Derived.Test.YtmljcbdlkeooiaaStore4
import Derived.Test.YtmljcbdlkeooiaaStoreM4
import Derived.Test.YtmljcbdlkeooiaaRead2
namespace Go.Proofs.Ytmljcbdlkeooiaa
open Go.RowKit Go.Proofs.PlaitSep Go.Proofs.PlaitPure

/-- A quiet callee at a call of a region behind another quiet region. -/
theorem quiet2 {P : Program} {f : FuncId} {args : Array Value} {w : World} {a n : Nat} {v : Value} (c : ∀ W : World, Calls P f args W fun e w' => e = .returned v ∧ w' = W) :
    Calls P f args (w.drewN (a + n)) fun e w'' => e = .returned v ∧ ∃ m, w'' = w.drewN (a + m) := (c _).mono fun _ _ h => ⟨h.1, n, h.2⟩
theorem quiet1 {P : Program} {f : FuncId} {args : Array Value} {w : World} {n : Nat} {v : Value} (c : ∀ W : World, Calls P f args W fun e w' => e = .returned v ∧ w' = W) :
    Calls P f args (w.drewN n) fun e w'' => e = .returned v ∧ ∃ m, w'' = w.drewN m := (c _).mono fun _ _ h => ⟨h.1, n, h.2⟩
def badInt (b : Option Nat) : Int := match b with | some n => (n : Int) | none => -1
def FollowPost (B : Nat) (w0 : World) (r p : Nat) (F : HP) (res : SM × RM × Option Nat) (e : Ending) (w' : World) : Prop :=
  e = .returned (.int .i64 (badInt res.2.2)) ∧ ∃ RL' L', RunAt B w0 w' r p RL' L' res.2.1 res.1 F
section
variable {B : Nat} {w0 w : World} {r p : Nat} {RL : RLay} {L : SLay} {R : RM} {S : SM} {F : HP}
theorem index_same (l : Int) (w : World) (h1 : -65536 ≤ l) (h2 : l ≤ 65536) :
    Calls Try.prog 41 #[.int .i64 l] w fun e w' => e = .returned (.int .u64 (idx l : Nat)) ∧ w' = w := (index_any l w h1 h2).mono fun _ _ h => ⟨h.1, h.2.symm⟩
theorem natInts_append (a b : List Nat) : natInts (a ++ b) = natInts a ++ natInts b := by simp [natInts]
theorem natInts_gi (l : List Nat) (j : Nat) (h : j < l.length) : gi (natInts l) j = (l.getD j 0 : Nat) := by
  unfold gi natInts
  simp [List.getD_eq_getElem?_getD, h]
/-- The list of watches has been written over within itself. -/
theorem StoreAt.refill {F : HP} {i : Nat} {a : Option Nat} {c : Nat} {l l' : List Nat} (h : St B w0 w (star (sli 3 a c (natInts l')) (hole p L S i F))) (hw : L.W.map (fun x => x.2.2) = S.watches) (hi : L.W[i]? = some (a, c, l)) (hl : l'.length = l.length) :
    StoreAt B w0 w p { L with W := L.W.set i (a, c, l') } (S.setW i l') F := by
  refine ⟨h.conseq ?_, by simp [List.map_set, hw, SM.setW]⟩
  have hilt := (List.getElem?_eq_some_iff.1 hi).1
  unfold storeHP hole
  simp only [inner_set, outer_set, List.length_set]
  rw [(stars_set_split (inner_get hi) (sli 3 a c (natInts l'))).2]
  have e2 : storeCells { L with W := L.W.set i (a, c, l') } (S.setW i l') = storeCells L S := by simp only [storeCells, List.length_set]; rfl
  have e3 : (S.setW i l').begins = S.begins := rfl
  have e4 : (S.setW i l').words = S.words := rfl
  have e5 : (S.setW i l').short = S.short := rfl
  have e6 : (outer L.W).set i (slv a l'.length c) = outer L.W := by
    have := outer_get hi
    rw [hl]
    refine List.ext_getElem? fun k => ?_
    rw [List.getElem?_set]
    split
    · rename_i e; subst e
      rw [this]
      simp [outer_length, hilt]
    · rfl
  rw [e2, e3, e4, e5, e6]
  ac_rfl
/-- One more is behind. -/
theorem RunAt.stepped {v : Value} (hw : L.W.map (fun x => x.2.2) = S.watches) (h : St B w0 w (star (pt r 64 ((runCells p RL R).set 3 v)) (star (star (sli 3 RL.oa RL.oc R.out) (sli 3 (some RL.vb) RL.vc R.value)) (star (storeHP p L S) F)))) (hv : v = .int .i64 (R.next + 1 : Nat)) :
    RunAt B w0 w r p RL L R.step S F := by
  refine ⟨h.conseq ?_, hw⟩
  unfold runHP
  have e : (runCells p RL R).set 3 v = runCells p RL R.step := by subst hv; rfl
  rw [e]
  simp only [RM.step]
  ac_rfl
theorem St.sl_cut {B : Nat} {w0 w : World} {a : Option Nat} {n c : Nat} {e : TypeId} {sz : Nat} {xs : List Value} {F : HP} (h : St B w0 w (star (sl a n c e sz xs) F)) (m d : Nat) (hm : m ≤ d) (hmn : m ≤ n) (hd : d ≤ c) :
    St B w0 w (star (sl a m d e sz (xs.take (m * sz))) F) := ⟨h.below, h.base, h.sat.sl_cut m d hm hmn hd⟩
/-- The list of watches is laid back, as long as it has become. -/
theorem RunAt.finish {i lb xc q k ab : Nat} {fin v : List Nat} (h : RunAt B w0 w r p RL L R (S.setW i v) F) (hL : L.W[i]? = some (some lb, xc, v)) (hv : v.take k = fin) (hk : fin.length = k) (hkq : k ≤ q) (hq : v.length = q) (hab : L.av = some ab) :
    RunAt B w0 (w.setCell ⟨ab, i, none⟩ (.slice (some ⟨lb, 0, none⟩) k q)) r p RL { L with W := L.W.set i (some lb, q, fin) } R (S.setW i fin) F := by
  have hf := h.store.focus hL
  have hc : (natInts v).length ≤ xc := hf.sat.sl_facts.2.1
  rw [natInts_length, hq] at hc
  have h1 : St B w0 w (star (sl (some lb) k q 3 1 ((ints (natInts v)).take (k * 1))) (hole p L (S.setW i v) i (star (runHP r p RL R) F))) :=
    St.sl_cut (h := hf) k q hkq (by rw [natInts_length, hq]; exact hkq) hc
  have h2 : (ints (natInts v)).take (k * 1) = ints (natInts fin) := by
    rw [Nat.mul_one, ← hv]
    simp [ints, natInts, List.map_take]
  rw [h2] at h1
  have h3 : St B w0 w (star (sli 3 (some lb) q (natInts fin)) (hole p L (S.setW i v) i (star (runHP r p RL R) F))) := by
    unfold sli
    rw [natInts_length, hk]
    exact h1
  have h4 := StoreAt.unfocus h3 h.ws hab (List.getElem?_eq_some_iff.1 hL).1
  rw [hk] at h4
  have h5 : ({ S.setW i v with watches := (S.setW i v).watches.set i fin } : SM) = S.setW i fin := by unfold SM.setW; simp
  rw [h5] at h4
  exact StoreAt.run h4
theorem RunAt.finishNone {i ab : Nat} (h : RunAt B w0 w r p RL L R S F) (hL : L.W[i]? = some (none, 0, [])) (hab : L.av = some ab) :
    RunAt B w0 (w.setCell ⟨ab, i, none⟩ (.slice none 0 0)) r p RL { L with W := L.W.set i (none, 0, []) } R S F := by
  have hi := (List.getElem?_eq_some_iff.1 hL).1
  have h4 := StoreAt.unfocus (h.store.focus hL) h.ws hab hi
  have h5 : S.setW i [] = S := by
    have hlt : i < S.watches.length := by rw [← h.store.tlen]; exact hi
    refine SM.setW_same hlt ?_
    unfold SM.getW
    rw [← h.ws]
    simp [hL]
  exact StoreAt.run (show StoreAt B w0 _ p _ S _ from h5 ▸ h4)
/-- One is written over: behind the append. -/
theorem RunAt.wrote {i lb xc kl ref : Nat} {kept xs v : List Nat} (h0 : RunAt B w0 w r p RL L R (S.setW i v) F) {w' : World} (hL : L.W[i]? = some (some lb, xc, v)) (hk : v.take kl = kept) (hd : v.drop (kl + 1) = xs.drop (kl + 1)) (hl : kl < v.length)
    (h : St B w0 w' (star (sli 3 (some lb) xc ((natInts v).take kl ++ [(ref : Int)] ++ (natInts v).drop (kl + 1))) (hole p L (S.setW i v) i (star (runHP r p RL R) F)))) :
    RunAt B w0 w' r p RL { L with W := L.W.set i (some lb, xc, kept ++ [ref] ++ xs.drop (kl + 1)) } R (S.setW i (kept ++ [ref] ++ xs.drop (kl + 1))) F := by
  have e : (natInts v).take kl ++ [(ref : Int)] ++ (natInts v).drop (kl + 1) = natInts (kept ++ [ref] ++ xs.drop (kl + 1)) := by
    rw [← hk, ← hd]; simp [natInts, List.map_take, List.map_drop]
  rw [e] at h
  have hlen : (kept ++ [ref] ++ xs.drop (kl + 1)).length = v.length := by
    rw [← hk, ← hd]; simp; omega
  have h4 := StoreAt.refill h h0.ws hL hlen
  rw [SM.setW_setW] at h4
  exact StoreAt.run h4
theorem RunAt.wroteMany {i lb xc m n : Nat} {a b v : List Nat} (h0 : RunAt B w0 w r p RL L R (S.setW i v) F) {w' : World} (hL : L.W[i]? = some (some lb, xc, v)) (hk : v.take m = a) (hn : n = m + b.length) (hl : n ≤ v.length)
    (h : St B w0 w' (star (sli 3 (some lb) xc ((natInts v).take m ++ natInts b ++ (natInts v).drop n)) (hole p L (S.setW i v) i (star (runHP r p RL R) F)))) :
    RunAt B w0 w' r p RL { L with W := L.W.set i (some lb, xc, a ++ b ++ v.drop n) } R (S.setW i (a ++ b ++ v.drop n)) F := by
  have e : (natInts v).take m ++ natInts b ++ (natInts v).drop n = natInts (a ++ b ++ v.drop n) := by
    rw [← hk]; simp [natInts, List.map_take, List.map_drop]
  rw [e] at h
  have hlen : (a ++ b ++ v.drop n).length = v.length := by
    rw [← hk]; simp; omega
  have h4 := StoreAt.refill h h0.ws hL hlen
  rw [SM.setW_setW] at h4
  exact StoreAt.run h4
/-- The rest of a list of watches is read. -/
theorem rd_tail {t : TypeId} {lb xc q o : Nat} {v : List Nat} {F : HP} (h : St B w0 w (star (sli t (some lb) xc (natInts v)) F)) (hq : v.length = q) (hs : q ≤ 1000000) : Rd w (some ⟨lb, o, none⟩) (q - o) (natInts (v.drop o)) := by
  refine ⟨by simp [hq], by omega, fun hn => ⟨lb, o, rfl, fun j hj => ?_⟩⟩
  rw [St.sl_cell (h := h) (o + j) (by rw [ints_length, natInts_length, hq]; omega), ints_get _ _ (by rw [natInts_length, hq]; omega)]
  congr 2
  rw [natInts_gi _ _ (by omega), natInts_gi _ _ (by simp; omega)]
  simp [List.getD_eq_getElem?_getD]
theorem rd_none (w : World) (A : Option Addr) (n : Nat) (hn : n = 0) (xs : List Int) (hx : xs = []) : Rd w A n xs := by
  subst hn hx
  exact ⟨rfl, by omega, fun h => by omega⟩
/-- What a store into the list of lists of watches reads and writes. -/
theorem RunAt.heads0 {i xc : Nat} {lb : Option Nat} {v : List Nat} (h : RunAt B w0 w r p RL L R S F) (hL : L.W[i]? = some (lb, xc, v)) :
    ∃ ab m c, L.av = some ab ∧ i < m ∧ (i : Int) < (m : Int) ∧ w.cell? ⟨r, 0, none⟩ = some (.pointer (some ⟨p, 0, none⟩)) ∧ w.cell? ⟨p, 3, none⟩ = some (.slice (some ⟨ab, 0, none⟩) m c) ∧ (∃ u, w.cell? ⟨ab, i, none⟩ = some u) ∧ w.frozen? ⟨ab, i, none⟩ = false := by
  have hi := (List.getElem?_eq_some_iff.1 hL).1
  obtain ⟨ab, hab⟩ : ∃ ab, L.av = some ab := by
    obtain ⟨_, _, _, hnone, _⟩ := h.store.touter.sat.sl_facts
    cases e : L.av with
    | none => have := (hnone e).1; omega
    | some ab => exact ⟨ab, rfl⟩
  have hc := hole_cells (h.store.focus hL) hab hL
  exact ⟨ab, _, _, hab, hi, by omega, by rw [h.tpt.pt_cell 0]; rfl, hc.1, ⟨_, hc.2.1⟩, hc.2.2⟩
theorem RunAt.heads {i lb xc : Nat} {v : List Nat} (h : RunAt B w0 w r p RL L R S F) (hL : L.W[i]? = some (some lb, xc, v)) :
    ∃ ab m c, L.av = some ab ∧ i < m ∧ (i : Int) < (m : Int) ∧ w.cell? ⟨r, 0, none⟩ = some (.pointer (some ⟨p, 0, none⟩)) ∧ w.cell? ⟨p, 3, none⟩ = some (.slice (some ⟨ab, 0, none⟩) m c) ∧ (∃ u, w.cell? ⟨ab, i, none⟩ = some u) ∧ w.frozen? ⟨ab, i, none⟩ = false := RunAt.heads0 h hL
theorem inv_lookOk {S : SM} {R : RM} (hS : S.Inv) (hR : R.Inv) {ref : Nat} {l : Int} (hk : Looks S ref l) {i : Nat} {v : List Nat} (hv : v.length ≤ 1000000) : LookOk (S.setW i v) R ref where
  isRef := hk.isRef
  words := Nat.le_trans hS.words hS.most
  p := hk.ok.p hk.two
  q := hk.ok.q hk.two
  lits := fun i hi => (litB_iff.1 (hk.ok.lits _ (getL_mem hi))).2
  wl := by
    show (S.watches.set i v).length ≤ _
    rw [List.length_set]; have := hS.wlen; omega
  ws := fun x hx => by
    rcases List.mem_or_eq_of_mem_set hx with h | h
    · have := hS.short x h; omega
    · subst h; exact hv
  run := hR.ok
  room := by have := hR.room; omega

set_option maxRecDepth 100000 in
set_option maxHeartbeats 8000000 in
theorem follow_any (fuel : Nat) (res : SM × RM × Option Nat) (h : RunAt B w0 w r p RL L R S F) (hS : S.Inv) (hR : R.Inv) (hf : followF fuel S R = some res) :
    Calls Try.prog 40 #[.pointer (some ⟨r, 0, none⟩)] w (FollowPost B w0 r p F res) := by
  have HF := Lib.hid hf
  clear hf
  go_enter Try.func40, Try.ntmps40
  go_wp2
  go_loopg [3] fuel (fun g _ wr => ∃ (S1 : SM) (R1 : RM) (RL1 : RLay) (L1 : SLay), Hid (followF g S1 R1 = some res) ∧ Hid (S1.Inv) ∧ Hid (R1.Inv) ∧ Hid (RunAt B w0 wr r p RL1 L1 R1 S1 F))
  case atStart => exact ⟨S, R, RL, L, HF, hS, hR, h⟩
  case round =>
    obtain ⟨S1, R1, RL1, L1, HF1, HS1, HR1, HRUN⟩ := hrel
    cases gk with
    | zero => have := HF1.out; rw [followF] at this; cases this
    | succ g =>
    have c1 := HRUN.out.tpt.pt_cell 1
    have c3 := HRUN.out.tpt.pt_cell 3
    have c0 := HRUN.out.tpt.pt_cell 0
    obtain ⟨n, hn⟩ : ∃ n, R1.out.length = n := ⟨_, rfl⟩
    obtain ⟨k, hk⟩ : ∃ k, R1.next = k := ⟨_, rfl⟩
    have hroom := HR1.out.room
    simp only [runCells, slv, hn, hk] at c1 c3 c0
    rw [hn] at hroom
    have HN := Lib.hid hn
    have HK := Lib.hid hk
    clear hn hk
    by_cases hlt : k < n
    · have hlt' : (k : Int) < (n : Int) := by omega
      have hk0 : (0 : Int) ≤ (k : Int) := by omega
      obtain ⟨oa, hoa⟩ : ∃ oa, RL1.oa = some oa := by
        obtain ⟨_, _, _, hnone, _⟩ := HRUN.out.tout.sat.sl_facts
        cases e : RL1.oa with
        | none => have := (hnone e).1; have := HN.out; omega
        | some b => exact ⟨b, rfl⟩
      have hto := HRUN.out.tout
      rw [hoa] at hto c1
      have HOA := Lib.hid hoa
      obtain ⟨y, hy⟩ : ∃ y, gi R1.out k = y := ⟨_, rfl⟩
      have d1 : wr.cell? ⟨oa, k, none⟩ = some (.int .i64 y) := by
        rw [St.sl_cell (h := hto) k (by rw [ints_length, HN.out]; exact hlt), ints_get _ _ (by rw [HN.out]; exact hlt), hy]
      have HY := Lib.hid hy
      have hyl := litB_iff.1 (HR1.out.lits y (by rw [← hy]; exact getL_mem (by rw [HN.out]; exact hlt)))
      obtain ⟨hy1, hy2, hy3⟩ := hyl
      have s3 := HRUN.out.store.tpt.pt_cell 3
      obtain ⟨m, hm⟩ : ∃ m, L1.W.length = m := ⟨_, rfl⟩
      simp only [storeCells, slv, hm] at s3
      have hml : m ≤ 131074 := by rw [← hm, HRUN.out.store.tlen]; exact HS1.out.wlen
      have HM := Lib.hid hm
      clear hto hoa hy hm hy1
      obtain ⟨i, hi⟩ : ∃ i, idx (-y) = i := ⟨_, rfl⟩
      have hix := fun w => index_same (-y) w (by omega) (by omega)
      rw [hi] at hix
      have hib : i ≤ 131073 := by rw [← hi]; exact idx_le (by omega) (by omega)
      have HI := Lib.hid hi
      have HIX := Lib.hid hix
      clear hi hix
      go_wp2
      go_quiet (fail)
      revert nq
      intro nqa
      go_wp2
      go_quiet (fail)
      revert nq
      intro nqb
      by_cases him : i < m
      · have him' : decide (m ≤ i) = false := by simp; omega
        have him2 : ((i : Int) < (m : Int)) := by omega
        go_wp2
        go_quiet ((go_at_call 41; exact quiet2 HIX.out))
        revert nq
        intro nqc
        go_wp2
        have HLT := Lib.hid (show i < S1.watches.length by have := HRUN.out.store.tlen; have := HM.out; omega)
        obtain ⟨x, hx⟩ : ∃ x, L1.W[i]? = some x := ⟨L1.W[i]'(by rw [HM.out]; exact him), by simp⟩
        obtain ⟨xa, xc, xl⟩ := x
        obtain ⟨ab, hab⟩ : ∃ ab, L1.av = some ab := by
          obtain ⟨_, _, _, hnone, _⟩ := HRUN.out.store.touter.sat.sl_facts
          cases e : L1.av with
          | none => have := (hnone e).1; have := HM.out; omega
          | some ab => exact ⟨ab, rfl⟩
        have hcs := hole_cells (HRUN.out.store.focus hx) hab hx
        obtain ⟨f3, f4, f5⟩ := hcs
        obtain ⟨q, hq⟩ : ∃ q, xl.length = q := ⟨_, rfl⟩
        simp only [slv, hq] at f4
        rw [hab] at s3
        have HX := Lib.hid hx
        have HAB := Lib.hid hab
        have HQ := Lib.hid hq
        clear hx hab hq f3 f5
        have hxl : S1.getW i = xl := by
          have := HRUN.out.ws
          unfold SM.getW
          rw [← this]
          simp [HX.out]
        have HXL := Lib.hid hxl
        clear hxl
        cases xa with
        | none =>
          simp only [Option.map_none] at f4
          have hnf := (HRUN.out.store.focus HX.out).sat.sl_facts.2.2.2.1 rfl
          obtain ⟨hn1, rfl⟩ := hnf
          have hq0 : q = 0 := by rw [natInts_length, HQ.out] at hn1; exact hn1
          subst hq0
          have hxl0 : xl = [] := List.eq_nil_of_length_eq_zero HQ.out
          subst hxl0
          clear hn1
          go_quiet ((go_at_call 41; exact quiet2 HIX.out))
          obtain ⟨w8, hw8⟩ : ∃ w8, (((wr.drewN nqa).drewN nqb).drewN nqc).drewN nq = w8 := ⟨_, rfl⟩
          have h8 := HRUN.out.drawn (w' := w8) ⟨nqa + nqb + nqc + nq, by rw [← hw8]; simp only [World.drewN_drewN]⟩
          rw [hw8]
          clear hw8
          have H8 := Lib.hid h8
          clear h8
          go_wp2
          go_loop [5, 6, 68] (fun v5 v6 v68 => v5 = .slice none 0 0 ∧ v6 = .int .i64 (-1) ∧ v68 = .int .i64 0) (fun _ _ _ => 0)
          case atStart => exact ⟨rfl, rfl, rfl⟩
          case round =>
            obtain ⟨rfl, rfl, rfl⟩ := hrel
            obtain ⟨abz, mz, cz, habz, hz1, hz2, z0, z3, ⟨uz, z4⟩, z5⟩ := RunAt.heads0 H8.out HX.out
            have HABZ := Lib.hid habz
            clear habz
            go_wp2
            go_region_with (go_at_call 41; refine (HIX.out _).mono ?_; rintro e w' ⟨rfl, rfl⟩)
            all_goals
              have h13 := (RunAt.finishNone H8.out HX.out HABZ.out).drawn (w' := (w8.setCell ⟨abz, i, none⟩ (.slice none 0 0)).drew) ⟨1, rfl⟩
              obtain ⟨w9, hw9⟩ : ∃ w9, (w8.setCell ⟨abz, i, none⟩ (Value.slice none 0 0)).drew = w9 := ⟨_, rfl⟩
              rw [hw9] at h13 ⊢
              clear hw9
              obtain ⟨k2, hk2e⟩ : ∃ k2, R1.next = k2 := ⟨_, rfl⟩
              have y3 := h13.tpt.pt_cell 3
              simp only [runCells, hk2e] at y3
              have hk2 : k2 + 1 ≤ 65538 := by have := HK.out; omega
              have HK2 := Lib.hid hk2e
              clear hk2e
              go_wp2_with (refine wpList_store_pt rfl 3 _ _ rfl Try.sizeInt h13.tpt 3 (.int .i64 ((k2 : Int) + 1)) rfl rfl rfl (by simp [runCells]) ?_; intro w10 h14; have h15 := RunAt.stepped h13.ws h14 (by rw [HK2.out]; rfl); have H15 := Lib.hid h15; clear h14 h15 h13)
              go_roundg g
              case measure => omega
              case rel =>
                refine ⟨S1, R1.step, RL1, _, ?_, HS1.out, HR1.out.step (by rw [HN.out, HK.out]; exact hlt), H15.out⟩
                refine (?_ : followF g S1 R1.step = some res)
                have h9 := HF1.out
                have e1 : R1.lit = -y := by unfold RM.lit; rw [HK.out, HY.out]
                rw [followF, if_pos (by rw [HN.out, HK.out]; exact hlt), e1, HI.out, if_pos HLT.out, HXL.out, scanF] at h9
                exact h9
        | some lb =>
        simp only [Option.map_some] at f4
        go_quiet ((go_at_call 41; exact quiet2 HIX.out))
        have hsi : ScanInv (-y) S1 R1 [] xl := by
          refine ⟨HS1.out, HR1.out, ?_, litB_iff.2 (by have := (HR1.out.lits y (by rw [← HY.out]; exact getL_mem (by rw [HN.out]; exact hlt))); rw [litB_iff] at this; omega), by rw [HI.out]; simpa using HXL.out, by rw [HI.out]; exact HLT.out, by rw [HN.out, HK.out]; exact hlt⟩
          have hyo : y ∈ R1.out := by rw [← HY.out]; exact getL_mem (by rw [HN.out]; exact hlt)
          have hyb := HR1.out.lits y hyo
          have := (HR1.out.neg (litB_neg hyb)).2 (by simpa using hyo)
          omega
        have HSI := Lib.hid hsi
        obtain ⟨SC, hSC⟩ : ∃ SC, scanF (-y) S1 R1 [] xl = SC := ⟨_, rfl⟩
        have HSC := Lib.hid hSC
        have hfx : (match SC.bad with | some b => some (SC.S, SC.R, some b) | none => followF g SC.S SC.R.step) = some res := by
          have h9 := HF1.out
          have e1 : R1.lit = -y := by unfold RM.lit; rw [HK.out, HY.out]
          rw [followF, if_pos (by rw [HN.out, HK.out]; exact hlt), e1, HI.out, if_pos HLT.out, HXL.out, hSC] at h9
          exact h9
        have HFX := Lib.hid hfx
        clear hfx
        clear hsi hSC
        have hqb : q ≤ 262144 := by
          have := HS1.out.short xl (by rw [← HXL.out]; unfold SM.getW; rw [List.getD_eq_getElem?_getD, List.getElem?_eq_getElem HLT.out]; exact List.getElem_mem HLT.out)
          rw [HQ.out] at this
          exact this
        have hqc : q ≤ xc := by
          have := (HRUN.out.store.focus HX.out).sat.sl_facts.2.1
          rw [natInts_length, HQ.out] at this
          exact this
        go_wp2
        go_loopw [5, 6, 68] (fun v5 v6 v68 wx => ∃ (j : Nat) (S2 : SM) (R2 : RM) (RL2 : RLay) (L2 : SLay) (kept : List Nat) (kl : Nat), j ≤ q ∧ v68 = .int .i64 j ∧ v5 = .slice (some ⟨lb, 0, none⟩) kl q ∧ v6 = .int .i64 (-1) ∧ kl ≤ j ∧ Hid (kept.length = kl) ∧
            Hid (ScanInv (-y) S2 R2 kept (xl.drop j)) ∧ Hid (scanF (-y) S2 R2 kept (xl.drop j) = SC) ∧ Hid (RunAt B w0 wx r p RL2 L2 R2 (S2.setW i (kept ++ xl.drop kl)) F) ∧ Hid (L2.W[i]? = some (some lb, xc, kept ++ xl.drop kl)))
          (fun _ _ v68 _ => q - (intOf v68).toNat)
        case atStart =>
          refine ⟨0, S1, R1, RL1, L1, [], 0, Nat.zero_le _, rfl, rfl, rfl, Nat.le_refl _, rfl, HSI.out, HSC.out, ?_, ?_⟩
          · refine (?_ : RunAt B w0 _ r p RL1 L1 R1 (S1.setW i xl) F)
            rw [SM.setW_same HLT.out HXL.out]
            exact HRUN.out.drawn ⟨_, rfl⟩
          · exact HX.out
        case round =>
          obtain ⟨j, S2, R2, RL2, L2, kept, kl, hj, rfl, rfl, rfl, hkj, HKL, HSI2, HSC2, HRUN2, HL2⟩ := hrel
          have hilt2 : i < L2.W.length := (List.getElem?_eq_some_iff.1 HL2.out).1
          have hlenv : (kept ++ xl.drop kl).length = q := by have := HQ.out; have := HKL.out; simp; omega
          have HLV := Lib.hid hlenv
          clear hlenv
          by_cases hjq : j < q
          · obtain ⟨ref, href⟩ : ∃ ref, xl.getD j 0 = ref := ⟨_, rfl⟩
            have hxd : xl.drop j = ref :: xl.drop (j + 1) := by
              rw [List.drop_eq_getElem_cons (by have := HQ.out; omega), ← href]
              simp [List.getD_eq_getElem?_getD, show j < xl.length by have := HQ.out; omega]
            have hsi := HSI2.out
            have hsc := HSC2.out
            rw [hxd] at hsi hsc
            have hk := hsi.sInv.looks (ref := ref) (l := -y) (by rw [hsi.w]; simp)
            have hrb : ref < 262145 := by have := hk.isRef; have := hsi.sInv.refs; omega
            have hfoc := HRUN2.out.store.focus HL2.out
            have d2 : wr.cell? ⟨lb, j, none⟩ = some (.int .i64 (ref : Nat)) := by
              rw [St.sl_cell (h := hfoc) j (by rw [ints_length, natInts_length, HLV.out]; exact hjq), ints_get _ _ (by rw [natInts_length, HLV.out]; exact hjq), natInts_gi _ _ (by rw [HLV.out]; exact hjq)]
              have : (kept ++ xl.drop kl).getD j 0 = ref := by
                rw [← href]
                simp only [List.getD_eq_getElem?_getD]
                rw [List.getElem?_append_right (by have := HKL.out; omega), List.getElem?_drop, HKL.out, show kl + (j - kl) = j by omega]
              rw [this]
            have hlk := look_any ref (-y) HRUN2.out (inv_lookOk hsi.sInv hsi.rInv hk (by rw [HLV.out]; omega)) hsi.neg
            have hlse := lookF_setW S2 R2 ref (-y) (kept ++ xl.drop kl) hsi.lt hsi.neg
            rw [HI.out] at hlse hlk
            rw [hlse] at hlk
            unfold LookPost at hlk
            simp only at hlk
            have hstep := hsi.step
            have hcons := scanF_cons (-y) S2 R2 kept ref (xl.drop (j + 1))
            rw [hsc] at hcons
            obtain ⟨K, hK⟩ : ∃ K, lookF S2 R2 ref (-y) = K := ⟨_, rfl⟩
            have hfound := lookF_found S2 R2 ref (-y) kept (xl.drop (j + 1))
            unfold scanStep at hstep hcons
            simp only at hstep hcons
            rw [hK] at hlk hstep hcons hfound
            rw [HI.out] at hstep hcons
            have hvl : (kept ++ xl.drop kl).take kl = kept := by rw [List.take_append_of_le_length (by rw [HKL.out]; omega), List.take_of_length_le (by rw [HKL.out]; omega)]
            have hvd : (kept ++ xl.drop kl).drop (kl + 1) = xl.drop (kl + 1) := by
              rw [List.drop_append, HKL.out, List.drop_of_length_le (by rw [HKL.out]; omega)]
              simp
            have HVL := Lib.hid hvl
            have HVD := Lib.hid hvd
            have HKK := Lib.hid hK
            clear hxd hsi hsc hk hfoc hlse hK href hvl hvd
            cases hfound with
            | moved i0 hi0 hfi h1 =>
              simp only [if_true, Bool.false_eq_true, if_false] at hstep hcons
              have HLK := Lib.hid hlk
              have HSTEP := Lib.hid hstep
              have HCONS := Lib.hid hcons
              clear hlk hstep hcons hfi h1 hi0
              go_wp2_with (go_at_call 45; refine (HLK.out).mono ?_; rintro e w2 ⟨rfl, RL3, L3, h3, h4⟩; have H3 := Lib.hid h3; have H4 := Lib.hid h4; clear h3 h4)
              go_roundw
              case rel =>
                refine ⟨j + 1, _, _, RL3, L3, kept, kl, by omega, by go_num, rfl, rfl, by omega, HKL.out, HSTEP.out, HCONS.out.symm, ?_, ?_⟩
                · refine (?_ : RunAt B w0 _ r p RL3 L3 _ _ F)
                  rw [SM.setW_setW]
                  exact H3.out
                · exact ((H4.out hilt2).trans HL2.out : _ = _)
              case measure => simp [intOf]; omega
            | sat h1 =>
              simp only [Bool.false_eq_true, if_false] at hstep hcons
              have HLK := Lib.hid hlk
              have HSTEP := Lib.hid hstep
              have HCONS := Lib.hid hcons
              clear hlk hstep hcons h1
              go_wp2_with (first
                | (go_at_call 45; refine (HLK.out).mono ?_; rintro e w2 ⟨rfl, RL3, L3, h3, h4⟩; have H3 := Lib.hid h3; have H4 := Lib.hid ((h4 hilt2).trans HL2.out); clear h3 h4; have hfo3 := H3.out.store.focus H4.out)
                | (at_builtin; refine wpList_append_in rfl _ _ 27 3 rfl Try.underlying27 Try.infoInt (hfo3.alloc _) kl q _ 1 1 [(ref : Int)] (Rd.newBox _ _ _) (by omega) (by rw [natInts_length, HLV.out]; exact Nat.le_refl _) rfl rfl ?_; intro w3 h5; have h6 := RunAt.wrote H3.out H4.out HVL.out HVD.out (by rw [HLV.out]; omega) h5; have H6 := Lib.hid h6; clear h5 h6 hfo3))
              go_roundw
              case rel =>
                refine ⟨j + 1, _, _, RL3, { L3 with W := L3.W.set i (some lb, xc, kept ++ [ref] ++ xl.drop (kl + 1)) }, kept ++ [ref], kl + 1, by omega, by go_num, rfl, rfl, by omega, (by rw [List.length_append, HKL.out]; rfl : (kept ++ [ref]).length = kl + 1), HSTEP.out, HCONS.out.symm, ?_, ?_⟩
                · refine (?_ : RunAt B w0 _ r p RL3 _ _ _ F)
                  rw [SM.setW_setW]
                  exact H6.out
                · refine (?_ : (L3.W.set i _)[i]? = _)
                  rw [List.getElem?_set_self (List.getElem?_eq_some_iff.1 H4.out).1]
              case measure => simp [intOf]; omega
            | bad hn h1 =>
              simp only [if_true, Bool.false_eq_true, if_false] at hstep hcons
              have HLK := Lib.hid hlk
              have HSTEP := Lib.hid hstep
              have HCONS := Lib.hid hcons
              clear hlk hstep hcons hn h1
              have hlv3 : (kept ++ [ref] ++ xl.drop (kl + 1)).length = q := by have := HQ.out; have := HKL.out; simp; omega
              have HLV3 := Lib.hid hlv3
              have hv3 : (kept ++ [ref] ++ xl.drop (kl + 1)).take (kl + 1) = kept ++ [ref] := by
                rw [List.take_append_of_le_length (by simp [HKL.out]), List.take_of_length_le (by simp [HKL.out])]
              have HV3 := Lib.hid hv3
              have hvt : (kept ++ [ref] ++ xl.drop (kl + 1)).drop (j + 1) = xl.drop (j + 1) := by
                rw [List.drop_append, List.drop_of_length_le (by simp [HKL.out]; omega), List.drop_drop, List.nil_append]
                congr 1
                simp [HKL.out]; omega
              have HVT := Lib.hid hvt
              have hlx : (xl.drop (j + 1)).length = q - (j + 1) := by simp [HQ.out]
              have HLX := Lib.hid hlx
              have hxn : q = j + 1 → natInts (xl.drop (j + 1)) = [] := by
                intro e
                rw [List.drop_of_length_le (by have := HQ.out; omega)]
                rfl
              have HXN := Lib.hid hxn
              clear hlv3 hv3 hvt hlx hxn
              by_cases hxc : xc = j + 1
              · have hqj : q = j + 1 := by omega
                have HQJ := Lib.hid hqj
                subst hxc
                clear hqj
                go_wp2_with (first
                  | (go_at_call 45; refine (HLK.out).mono ?_; rintro e w2 ⟨rfl, RL3, L3, h3, h4⟩; have H3 := Lib.hid h3; have H4 := Lib.hid ((h4 hilt2).trans HL2.out); clear h3 h4; have hfo3 := H3.out.store.focus H4.out)
                  | (at_builtin; refine wpList_append_in rfl _ _ 27 3 rfl Try.underlying27 Try.infoInt (hfo3.alloc _) kl q _ 1 1 [(ref : Int)] (Rd.newBox _ _ _) (by omega) (by rw [natInts_length, HLV.out]; exact Nat.le_refl _) rfl rfl ?_; intro w3 h5; have h6 := RunAt.wrote H3.out H4.out HVL.out HVD.out (by rw [HLV.out]; omega) h5; have H6 := Lib.hid h6; clear h5 h6 hfo3; have h7 : ({ L3 with W := L3.W.set i (some lb, j + 1, kept ++ [ref] ++ xl.drop (kl + 1)) } : SLay).W[i]? = some (some lb, j + 1, kept ++ [ref] ++ xl.drop (kl + 1)) := (List.getElem?_set_self (List.getElem?_eq_some_iff.1 H4.out).1); have H7 := Lib.hid h7; clear h7; have hfo6 := H6.out.store.focus H7.out))
                obtain ⟨abz, mz, cz, habz, hz1, hz2, z0, z3, ⟨uz, z4⟩, z5⟩ := RunAt.heads H6.out H7.out
                have HABZ := Lib.hid habz
                clear habz hfo6
                go_region_with (go_at_call 41; refine (HIX.out _).mono ?_; rintro e w' ⟨rfl, rfl⟩)
                all_goals
                  have hr0 : (0 : Int) ≤ (ref : Int) := by omega
                  go_wp2
                  go_ret
                  have h12 := HFX.out
                  have hdn : xl.drop (j + 1) = [] := List.drop_of_length_le (by have := HQ.out; have := HQJ.out; omega)
                  rw [HCONS.out, hdn, List.append_nil] at h12
                  simp only [Option.some.injEq] at h12
                  rw [← h12]
                  have h13 := RunAt.finish H6.out H7.out (q := q) (k := kl + 1) (fin := kept ++ [ref]) HV3.out (by simp [HKL.out]) (by omega) HLV3.out HABZ.out
                  exact ⟨rfl, RL3, _, h13.drawn ⟨1, rfl⟩⟩
              · go_wp2_with (first
                  | (go_at_call 45; refine (HLK.out).mono ?_; rintro e w2 ⟨rfl, RL3, L3, h3, h4⟩; have H3 := Lib.hid h3; have H4 := Lib.hid ((h4 hilt2).trans HL2.out); clear h3 h4; have hfo3 := H3.out.store.focus H4.out)
                  | (at_builtin; refine wpList_append_in rfl _ _ 27 3 rfl Try.underlying27 Try.infoInt (hfo3.alloc _) kl q _ 1 1 [(ref : Int)] (Rd.newBox _ _ _) (by omega) (by rw [natInts_length, HLV.out]; exact Nat.le_refl _) rfl rfl ?_; intro w3 h5; have h6 := RunAt.wrote H3.out H4.out HVL.out HVD.out (by rw [HLV.out]; omega) h5; have H6 := Lib.hid h6; clear h5 h6 hfo3; have h7 : ({ L3 with W := L3.W.set i (some lb, xc, kept ++ [ref] ++ xl.drop (kl + 1)) } : SLay).W[i]? = some (some lb, xc, kept ++ [ref] ++ xl.drop (kl + 1)) := (List.getElem?_set_self (List.getElem?_eq_some_iff.1 H4.out).1); have H7 := Lib.hid h7; clear h7; have hfo6 := H6.out.store.focus H7.out)
                  | (at_builtin; refine wpList_append_in rfl _ _ 27 3 rfl Try.underlying27 Try.infoInt hfo6 (kl + 1) q _ (q - (j + 1)) _ (natInts (xl.drop (j + 1))) (by have h10 := rd_tail (o := j + 1) hfo6 HLV3.out (by omega); rw [HVT.out] at h10; exact h10) (by omega) (by rw [natInts_length, HLV3.out]; exact Nat.le_refl _) rfl rfl ?_; intro w4 h8; have h9 := RunAt.wroteMany H6.out H7.out HV3.out (b := xl.drop (j + 1)) (by rw [HLX.out]) (by rw [HLV3.out]; omega) h8; have H9 := Lib.hid h9; clear h8 h9 hfo6))
                obtain ⟨abz, mz, cz, habz, hz1, hz2, z0, z3, ⟨uz, z4⟩, z5⟩ := RunAt.heads H9.out (List.getElem?_set_self (by rw [List.length_set]; exact (List.getElem?_eq_some_iff.1 H4.out).1))
                have HABZ := Lib.hid habz
                clear habz
                go_region_with (go_at_call 41; refine (HIX.out _).mono ?_; rintro e w' ⟨rfl, rfl⟩)
                all_goals
                  have hr0 : (0 : Int) ≤ (ref : Int) := by omega
                  go_wp2
                  go_ret
                  have h12 := HFX.out
                  rw [HCONS.out] at h12
                  simp only [Option.some.injEq] at h12
                  rw [← h12]
                  have h13 := RunAt.finish H9.out (List.getElem?_set_self (by rw [List.length_set]; exact (List.getElem?_eq_some_iff.1 H4.out).1)) (q := q) (k := kl + 1 + (q - (j + 1))) (fin := kept ++ [ref] ++ xl.drop (j + 1)) (by rw [List.take_append_of_le_length (by simp [HKL.out, HLX.out]; omega), List.take_of_length_le (by simp [HKL.out, HLX.out]; omega)]) (by simp [HKL.out, HLX.out]; omega) (by omega) (by rw [List.length_append, List.length_drop, HLV3.out]; simp [HKL.out, HLX.out]; omega) HABZ.out
                  exact ⟨rfl, RL3, _, h13.drawn ⟨1, rfl⟩⟩
            | unit hn h1 =>
              simp only [Bool.false_eq_true, if_false] at hstep hcons
              have HLK := Lib.hid hlk
              have HSTEP := Lib.hid hstep
              have HCONS := Lib.hid hcons
              clear hlk hstep hcons hn h1
              go_wp2_with (first
                | (go_at_call 45; refine (HLK.out).mono ?_; rintro e w2 ⟨rfl, RL3, L3, h3, h4⟩; have H3 := Lib.hid h3; have H4 := Lib.hid ((h4 hilt2).trans HL2.out); clear h3 h4; have hfo3 := H3.out.store.focus H4.out)
                | (at_builtin; refine wpList_append_in rfl _ _ 27 3 rfl Try.underlying27 Try.infoInt (hfo3.alloc _) kl q _ 1 1 [(ref : Int)] (Rd.newBox _ _ _) (by omega) (by rw [natInts_length, HLV.out]; exact Nat.le_refl _) rfl rfl ?_; intro w3 h5; have h6 := RunAt.wrote H3.out H4.out HVL.out HVD.out (by rw [HLV.out]; omega) h5; have H6 := Lib.hid h6; clear h5 h6 hfo3))
              go_roundw
              case rel =>
                refine ⟨j + 1, _, _, RL3, { L3 with W := L3.W.set i (some lb, xc, kept ++ [ref] ++ xl.drop (kl + 1)) }, kept ++ [ref], kl + 1, by omega, by go_num, rfl, rfl, by omega, (by rw [List.length_append, HKL.out]; rfl : (kept ++ [ref]).length = kl + 1), HSTEP.out, HCONS.out.symm, ?_, ?_⟩
                · refine (?_ : RunAt B w0 _ r p RL3 _ _ _ F)
                  rw [SM.setW_setW]
                  exact H6.out
                · refine (?_ : (L3.W.set i _)[i]? = _)
                  rw [List.getElem?_set_self (List.getElem?_eq_some_iff.1 H4.out).1]
              case measure => simp [intOf]; omega
          · obtain rfl : j = q := by omega
            have hdn : xl.drop j = [] := List.drop_of_length_le (by have := HQ.out; omega)
            have hsc := HSC2.out
            rw [hdn, scanF] at hsc
            have HSCN := Lib.hid hsc
            have hsi := HSI2.out
            rw [hdn] at hsi
            have HSIN := Lib.hid hsi
            have hk2 : R2.next + 1 ≤ 65537 := by have := hsi.next; have := hsi.rInv.room; omega
            have hvl : (kept ++ xl.drop kl).take kl = kept := by rw [List.take_append_of_le_length (by rw [HKL.out]; omega), List.take_of_length_le (by rw [HKL.out]; omega)]
            have HVL := Lib.hid hvl
            clear hdn hsc hsi hvl
            obtain ⟨abz, mz, cz, habz, hz1, hz2, z0, z3, ⟨uz, z4⟩, z5⟩ := RunAt.heads HRUN2.out HL2.out
            have HABZ := Lib.hid habz
            clear habz
            go_wp2
            go_region_with (go_at_call 41; refine (HIX.out _).mono ?_; rintro e w' ⟨rfl, rfl⟩)
            all_goals
              have h13 := (RunAt.finish HRUN2.out HL2.out (q := j) (k := kl) (fin := kept) HVL.out HKL.out hkj HLV.out HABZ.out).drawn (w' := (wr.setCell ⟨abz, i, none⟩ (.slice (some ⟨lb, 0, none⟩) kl j)).drew) ⟨1, rfl⟩
              have hsame : S2.setW i kept = S2 := SM.setW_same (by have := HSIN.out.lt; rw [HI.out] at this; exact this) (by have := HSIN.out.w; rw [HI.out] at this; simpa using this)
              rw [hsame] at h13
              obtain ⟨w9, hw9⟩ : ∃ w9, (wr.setCell ⟨abz, i, none⟩ (Value.slice (some ⟨lb, 0, none⟩) kl j)).drew = w9 := ⟨_, rfl⟩
              rw [hw9] at h13 ⊢
              clear hw9 hsame
              obtain ⟨k2, hk2e⟩ : ∃ k2, R2.next = k2 := ⟨_, rfl⟩
              have y3 := h13.tpt.pt_cell 3
              simp only [runCells, hk2e] at y3
              rw [hk2e] at hk2
              have HK2 := Lib.hid hk2e
              clear hk2e
              go_wp2_with (refine wpList_store_pt rfl 3 _ _ rfl Try.sizeInt h13.tpt 3 (.int .i64 ((k2 : Int) + 1)) rfl rfl rfl (by simp [runCells]) ?_; intro w10 h14; have h15 := RunAt.stepped h13.ws h14 (by rw [HK2.out]; rfl); have H15 := Lib.hid h15; clear h14 h15 h13)
              go_roundg g
              case measure => omega
              case rel =>
                refine ⟨S2, R2.step, RL2, _, ?_, HSIN.out.sInv, HSIN.out.rInv.step HSIN.out.next, H15.out⟩
                refine (?_ : followF g S2 R2.step = some res)
                have h16 := HFX.out
                rw [← HSCN.out] at h16
                exact h16
      · have him' : decide (m ≤ i) = true := by simp; omega
        go_wp2
        go_quiet ((go_at_call 41; exact quiet2 HIX.out))
        obtain ⟨w9, hw9⟩ : ∃ w9, ((wr.drewN nqa).drewN nqb).drewN nq = w9 := ⟨_, rfl⟩
        have h13 := HRUN.out.drawn (w' := w9) ⟨nqa + nqb + nq, by rw [← hw9]; simp only [World.drewN_drewN]⟩
        rw [hw9]
        clear hw9
        obtain ⟨k2, hk2e⟩ : ∃ k2, R1.next = k2 := ⟨_, rfl⟩
        have y3 := h13.tpt.pt_cell 3
        simp only [runCells, hk2e] at y3
        have hk2 : k2 + 1 ≤ 65538 := by have := HK.out; omega
        have HK2 := Lib.hid hk2e
        clear hk2e
        go_wp2_with (refine wpList_store_pt rfl 3 _ _ rfl Try.sizeInt h13.tpt 3 (.int .i64 ((k2 : Int) + 1)) rfl rfl rfl (by simp [runCells]) ?_; intro w10 h14; have h15 := RunAt.stepped h13.ws h14 (by rw [HK2.out]; rfl); have H15 := Lib.hid h15; clear h14 h15 h13)
        go_roundg g
        case measure => omega
        case rel =>
          refine ⟨S1, R1.step, RL1, _, ?_, HS1.out, HR1.out.step (by rw [HN.out, HK.out]; exact hlt), H15.out⟩
          refine (?_ : followF g S1 R1.step = some res)
          have h9 := HF1.out
          have e1 : R1.lit = -y := by unfold RM.lit; rw [HK.out, HY.out]
          rw [followF, if_pos (by rw [HN.out, HK.out]; exact hlt), e1, HI.out, if_neg (by have := HRUN.out.store.tlen; have := HM.out; omega)] at h9
          exact h9
    · have hlt' : ¬ ((k : Int) < (n : Int)) := by omega
      go_wp2
      go_quiet (fail)
      go_wp2
      go_ret
      have h9 := HF1.out
      rw [followF, if_neg (by rw [HN.out, HK.out]; exact hlt)] at h9
      simp only [Option.some.injEq] at h9
      rw [← h9]
      exact ⟨rfl, RL1, L1, HRUN.out.drawn ⟨_, rfl⟩⟩
end
end Go.Proofs.Ytmljcbdlkeooiaa

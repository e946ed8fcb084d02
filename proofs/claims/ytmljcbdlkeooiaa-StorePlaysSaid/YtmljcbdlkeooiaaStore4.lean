/-
  The contract of a run's look.
-/
import Derived.Test.YtmljcbdlkeooiaaStore3
import Derived.Test.YtmljcbdlkeooiaaStoreM3
namespace Go.Proofs.Ytmljcbdlkeooiaa
open Go.RowKit Go.Proofs.PlaitSep Go.Proofs.PlaitPure

section
variable {B : Nat} {w0 w : World} {r p : Nat} {RL : RLay} {L : SLay} {R : RM} {S : SM} {F : HP}
theorem StoreAt.word_at {wb bg k : Nat} {lits : List Int} {F : HP} (h : StoreAt B w0 w p L S F) {ref : Nat} (hr : ref < S.cls.length) (hb : L.wv = some wb) (hbg : S.begin ref = bg) (hl : (S.cl ref).lits = lits) (hk : lits.length = k) :
    w.cell? ⟨wb, bg, none⟩ = some (.int .i64 ((S.cl ref).p : Nat)) ∧ w.cell? ⟨wb, bg + 1, none⟩ = some (.int .i64 ((S.cl ref).q : Nat)) ∧ ∀ j, j < k → w.cell? ⟨wb, bg + (2 + j), none⟩ = some (.int .i64 (gi lits j)) := by
  have hh := h.twords
  rw [hb] at hh
  have hle := S.begin_le hr
  rw [hbg, hl, hk] at hle
  have key : ∀ j, j < k + 2 → w.cell? ⟨wb, bg + j, none⟩ = some (.int .i64 (gi (S.cl ref).words j)) := by
    intro j hj
    rw [St.sl_cell (h := hh) (bg + j) (by rw [ints_length]; omega), ints_get _ _ (by omega), ← hbg, S.words_at hr (by rw [hl, hk]; exact hj)]
  refine ⟨key 0 (by omega), key 1 (by omega), fun j hj => ?_⟩
  have := key (2 + j) (by omega)
  rw [show gi (S.cl ref).words (2 + j) = gi lits j from by rw [← hl, Nat.add_comm]; rfl] at this
  exact this

theorem StoreAt.putP {wb : Nat} {ref i : Nat} {F : HP} (hr : ref < S.cls.length) (hb : L.wv = some wb) (hw : L.W.map (fun x => x.2.2) = S.watches)
    (h : St B w0 w (star (sl (some wb) S.words.length L.wc 3 1 ((ints S.words).set (S.begin ref) (.int .i64 i))) (star (star (pt p 54 (storeCells L S)) (star (sli 3 L.bv L.bc S.begins) (star (sl L.av L.W.length L.ac 27 1 (outer L.W)) (star (sli 3 L.sv L.sc S.short) (stars (inner L.W)))))) F))) :
    StoreAt B w0 w p L (S.put ref ((S.cl ref).setP i)) F := by
  refine ⟨h.conseq ?_, by simpa [SM.put] using hw⟩
  have e0 := S.put_p hr i
  have e1 : (S.put ref ((S.cl ref).setP i)).words.length = S.words.length := by rw [e0, List.length_set]
  unfold storeHP
  rw [S.put_begins ((S.cl ref).setP i) rfl, S.put_short ((S.cl ref).setP i) hr rfl]
  have e2 : storeCells L (S.put ref ((S.cl ref).setP i)) = storeCells L S := by unfold storeCells; rw [e1, S.put_length, S.put_short ((S.cl ref).setP i) hr rfl]; rfl
  rw [e2, hb]
  unfold sli
  rw [ints_set, e1, ← e0]
  ac_rfl
theorem StoreAt.putQ {wb : Nat} {ref i : Nat} {F : HP} (hr : ref < S.cls.length) (hb : L.wv = some wb) (hw : L.W.map (fun x => x.2.2) = S.watches)
    (h : St B w0 w (star (sl (some wb) S.words.length L.wc 3 1 ((ints S.words).set (S.begin ref + 1) (.int .i64 i))) (star (star (pt p 54 (storeCells L S)) (star (sli 3 L.bv L.bc S.begins) (star (sl L.av L.W.length L.ac 27 1 (outer L.W)) (star (sli 3 L.sv L.sc S.short) (stars (inner L.W)))))) F))) :
    StoreAt B w0 w p L (S.put ref ((S.cl ref).setQ i)) F := by
  refine ⟨h.conseq ?_, by simpa [SM.put] using hw⟩
  have e0 := S.put_q hr i
  have e1 : (S.put ref ((S.cl ref).setQ i)).words.length = S.words.length := by rw [e0, List.length_set]
  unfold storeHP
  rw [S.put_begins ((S.cl ref).setQ i) rfl, S.put_short ((S.cl ref).setQ i) hr rfl]
  have e2 : storeCells L (S.put ref ((S.cl ref).setQ i)) = storeCells L S := by unfold storeCells; rw [e1, S.put_length, S.put_short ((S.cl ref).setQ i) hr rfl]; rfl
  rw [e2, hb]
  unfold sli
  rw [ints_set, e1, ← e0]
  ac_rfl
/-- What a look at a clause asks. -/
structure LookOk (S : SM) (R : RM) (ref : Nat) : Prop where
  isRef : ref < S.cls.length
  words : S.words.length ≤ 262144
  p : (S.cl ref).p < (S.cl ref).lits.length
  q : (S.cl ref).q < (S.cl ref).lits.length
  lits : ∀ i, i < (S.cl ref).lits.length → -65536 ≤ gi (S.cl ref).lits i ∧ gi (S.cl ref).lits i ≤ 65536
  wl : S.watches.length ≤ 1000000
  ws : ∀ x ∈ S.watches, x.length ≤ 1000000
  run : R.ok
  room : R.out.length + 1 ≤ 1000000

def LookPost (B : Nat) (w0 : World) (r p : Nat) (F : HP) (L : SLay) (i : Nat) (k : Look) (e : Ending) (w' : World) : Prop :=
  e = .returned (.tuple #[.bool k.moved, .bool k.bad]) ∧ ∃ RL' L', RunAt B w0 w' r p RL' L' k.R k.S F ∧ (i < L.W.length → L'.W[i]? = L.W[i]?)
set_option maxRecDepth 100000 in
set_option maxHeartbeats 1000000 in
theorem look_p (ref : Nat) (l : Int) (h : RunAt B w0 w r p RL L R S F) (ho : LookOk S R ref) (hneg : R.is l < 0) (hm : mineP S ref l = true) :
    Calls Try.prog 45 #[.pointer (some ⟨r, 0, none⟩), .int .i64 ref, .int .i64 l] w (LookPost B w0 r p F L (idx l) (lookF S R ref l)) := by
  obtain ⟨LK, hLK⟩ : ∃ LK, lookF S R ref l = LK := ⟨_, rfl⟩
  have HL := Lib.hid hLK
  have HNEG := Lib.hid hneg
  clear hneg
  rw [hLK]
  clear hLK
  obtain ⟨lits, hlits⟩ : ∃ lits, (S.cl ref).lits = lits := ⟨_, rfl⟩
  obtain ⟨bg, hbg⟩ : ∃ bg, S.begin ref = bg := ⟨_, rfl⟩
  obtain ⟨k, hk⟩ : ∃ k, lits.length = k := ⟨_, rfl⟩
  obtain ⟨pp, hpp⟩ : ∃ pp, (S.cl ref).p = pp := ⟨_, rfl⟩
  obtain ⟨qq, hqq⟩ : ∃ qq, (S.cl ref).q = qq := ⟨_, rfl⟩
  have hc := clause_any ref h.store ho.isRef ho.words
  rw [hbg, hlits, hk] at hc
  have HC := Lib.hid hc
  have hp := ho.p
  have hq := ho.q
  have hla := ho.lits
  rw [hlits, hk] at hp hq hla
  rw [hpp] at hp
  rw [hqq] at hq
  have hle := S.begin_le ho.isRef
  rw [hbg, hlits, hk] at hle
  have hwl := ho.words
  have c0 := h.tpt.pt_cell 0
  simp only [runCells] at c0
  have HH := Lib.hid h
  have HO := Lib.hid ho
  have hrl := ho.isRef
  have hrb : ref ≤ 1000000 := by have := S.cls_length_le; have := ho.words; omega
  have hml : gi lits pp = l := by have := hm; unfold mineP at this; rw [hlits, hpp] at this; simpa using this
  obtain ⟨f, hf⟩ : ∃ f, gi lits qq = f := ⟨_, rfl⟩
  have HF := Lib.hid hf
  have hw : ∀ wb w1, L.wv = some wb → Drawn w w1 → w1.cell? ⟨wb, bg, none⟩ = some (.int .i64 (pp : Nat)) ∧ w1.cell? ⟨wb, bg + 1, none⟩ = some (.int .i64 (qq : Nat)) ∧ w1.cell? ⟨wb, bg + (2 + pp), none⟩ = some (.int .i64 l) ∧ w1.cell? ⟨wb, bg + (2 + qq), none⟩ = some (.int .i64 f) ∧ ∀ j, j < k → w1.cell? ⟨wb, bg + (2 + j), none⟩ = some (.int .i64 (gi lits j)) := by
    intro wb w1 h1 h2
    have := (h.drawn h2).store.word_at ho.isRef h1 hbg hlits hk
    rw [hpp, hqq] at this
    exact ⟨this.1, this.2.1, by rw [this.2.2 pp hp, hml], by rw [this.2.2 qq hq, hf], this.2.2⟩
  have HW := Lib.hid hw
  have hpl := hla pp hp
  have hql := hla qq hq
  rw [hf] at hql
  have HLA := Lib.hid hla
  have HML := Lib.hid hml
  have HMP := Lib.hid hm
  have HQQ := Lib.hid hqq
  have HLITS := Lib.hid hlits
  have HBG := Lib.hid hbg
  have HK := Lib.hid hk
  have HPP := Lib.hid hpp
  clear hf hc hm hlits hbg hk hpp hqq h ho hw hla hml
  go_enter Try.func45, Try.ntmps45
  go_wp2_with (first
    | (go_at_call 33; refine (HC.out).mono ?_; rintro e w1 ⟨⟨wb, hwb, rfl⟩, hD⟩; obtain ⟨d0, d1, d3, d4, d2⟩ := HW.out _ _ hwb hD; have HWB := Lib.hid hwb; have HD2 := Lib.hid d2; clear hwb d2))
  obtain ⟨v, hv⟩ : ∃ v, R.is f = v := ⟨_, rfl⟩
  have hi := is_any f (HH.out.drawn hD) HO.out.run (by omega) (by omega)
  rw [hv] at hi
  have HI := Lib.hid hi
  have HV := Lib.hid hv
  clear hi hv
  refine (HI.out).mono ?_
  rintro e w1' ⟨rfl, rfl⟩
  have hrun := HH.out.drawn hD
  have HR := Lib.hid hrun
  clear hrun
  have HFIRST : Hid (lookF S R ref l = if 0 < v then ⟨false, false, S, R⟩ else match findNew R lits qq with
    | some i => ⟨true, false, (S.put ref ((S.cl ref).setP i)).watch (gi lits i) ref, R⟩
    | none => if v < 0 then ⟨false, true, S, R⟩ else ⟨false, false, S, R.set f⟩) := by
    have h1 : otherOf S ref l = qq := by unfold otherOf; rw [HMP.out]; exact HQQ.out
    have h2 : ∀ i, moveTo S ref l i = S.put ref ((S.cl ref).setP i) := fun i => by unfold moveTo; rw [HMP.out]; rfl
    show lookF S R ref l = _
    unfold lookF
    simp only [h1, h2, HLITS.out, HF.out, HV.out]
    rfl
  by_cases hv0 : 0 < v
  · go_wp2
    go_ret2
    rw [← HL.out, HFIRST.out, if_pos hv0]
    exact ⟨rfl, _, _, HR.out, fun _ => rfl⟩
  · go_wp2
    go_loop [45] (fun i => ∃ j : Nat, j ≤ k ∧ i = .int .i64 j ∧ Hid (∀ i, i < j → fits R lits qq i = false)) (fun i => k - (intOf i).toNat)
    case atStart => exact ⟨0, Nat.zero_le _, rfl, (fun i hi => by omega : ∀ i, i < 0 → _)⟩
    case round =>
      obtain ⟨j, hj, rfl, HA⟩ := hrel
      by_cases hjk : j < k
      · obtain ⟨x, hx⟩ : ∃ x, gi lits j = x := ⟨_, rfl⟩
        have hxl := HLA.out j hjk
        have d5 : w1.cell? ⟨wb, bg + 2 + j, none⟩ = some (.int .i64 x) := by rw [Nat.add_assoc, HD2.out j hjk, hx]
        rw [hx] at hxl
        have HX := Lib.hid hx
        clear hx
        have hnext : fits R lits qq j = false → ∀ i, i < j + 1 → fits R lits qq i = false := by
          intro h0 i hi
          rcases Nat.lt_succ_iff_lt_or_eq.1 hi with h1 | h1
          · exact HA.out i h1
          · subst h1; exact h0
        have HN := Lib.hid hnext
        clear hnext
        by_cases hjq : j = qq
        · have hd : ((j : Int) != (qq : Int)) = false := by simp; omega
          have HJ := Lib.hid hjq
          clear hjq
          go_wp2
          go_round
          case rel => exact ⟨j + 1, by omega, by go_num, (HN.out (by unfold fits; rw [HJ.out]; simp) : ∀ i, i < j + 1 → _)⟩
          case measure => simp [intOf]; omega
        · have hd : ((j : Int) != (qq : Int)) = true := by simp; omega
          obtain ⟨u, hu⟩ : ∃ u, R.is x = u := ⟨_, rfl⟩
          have hix := is_any x HR.out HO.out.run (by omega) (by omega)
          rw [hu] at hix
          have HIX := Lib.hid hix
          have HU := Lib.hid hu
          clear hix hu
          by_cases hu0 : 0 ≤ u
          · have hwo := HR.out.store.twords
            rw [HWB.out] at hwo
            have hfind : findNew R lits qq = some j := find_range (by rw [HK.out]; exact hjk) HA.out (by unfold fits; rw [HX.out, HU.out]; simp; omega)
            have HF2 := Lib.hid hfind
            clear hfind
            go_wp2_with (first
              | (go_at_call 38; refine (HIX.out).mono ?_; rintro e w1' ⟨rfl, rfl⟩)
              | (refine wpList_store_sl rfl 3 _ _ rfl Try.sizeInt hwo bg (.int .i64 (j : Nat)) rfl rfl rfl (by rw [ints_length]; omega) ?_; intro w2 h6; have h7 := StoreAt.putP hrl HWB.out HR.out.ws (by rw [HBG.out]; exact h6); have e0 := (StoreAt.run h7).tpt.pt_cell 0; simp only [runCells] at e0; clear hwo h6)
              | (go_at_call 29; refine (watch_any x ref h7 (by omega) (by omega) hrb HO.out.wl HO.out.ws).mono ?_; rintro e w3 ⟨rfl, L3, h8, hkp⟩))
            go_ret2
            rw [← HL.out, HFIRST.out, if_neg (by omega), HF2.out]
            simp only [HX.out]
            exact ⟨rfl, _, _, StoreAt.run h8, fun hi => hkp.out _ hi (fun e => by have := idx_inj e; have h9 := HU.out; rw [← this] at h9; have := HNEG.out; omega)⟩
          · go_wp2_with (first
              | (go_at_call 38; refine (HIX.out).mono ?_; rintro e w1' ⟨rfl, rfl⟩))
            go_round
            case rel => exact ⟨j + 1, by omega, by go_num, (HN.out (by unfold fits; rw [HX.out, HU.out]; simp; omega) : ∀ i, i < j + 1 → _)⟩
            case measure => simp [intOf]; omega
      · have hfind : findNew R lits qq = none := find_range_none (fun i hi => HA.out i (by rw [HK.out] at hi; omega))
        have HF2 := Lib.hid hfind
        clear hfind
        by_cases hv1 : v < 0
        · go_wp2_with (first
            | (go_at_call 38; refine (HI.out).mono ?_; rintro e w1' ⟨rfl, rfl⟩))
          go_ret2
          rw [← HL.out, HFIRST.out, if_neg (by omega), HF2.out]
          simp only [if_pos hv1]
          exact ⟨rfl, _, _, HR.out, fun _ => rfl⟩
        · have hs := set_run_any f HR.out HO.out.run (by omega) (by omega) HO.out.room
          have HSET := Lib.hid hs
          clear hs
          go_wp2_with (first
            | (go_at_call 38; refine (HI.out).mono ?_; rintro e w1' ⟨rfl, rfl⟩)
            | (go_at_call 39; refine (HSET.out).mono ?_; rintro e w2 ⟨rfl, RL2, h8⟩))
          go_ret2
          rw [← HL.out, HFIRST.out, if_neg (by omega), HF2.out]
          simp only [if_neg (show ¬ v < 0 by omega)]
          exact ⟨rfl, _, _, h8, fun _ => rfl⟩
set_option maxRecDepth 100000 in
set_option maxHeartbeats 1000000 in
theorem look_q (ref : Nat) (l : Int) (h : RunAt B w0 w r p RL L R S F) (ho : LookOk S R ref) (hneg : R.is l < 0) (hm : mineP S ref l = false) :
    Calls Try.prog 45 #[.pointer (some ⟨r, 0, none⟩), .int .i64 ref, .int .i64 l] w (LookPost B w0 r p F L (idx l) (lookF S R ref l)) := by
  obtain ⟨LK, hLK⟩ : ∃ LK, lookF S R ref l = LK := ⟨_, rfl⟩
  have HL := Lib.hid hLK
  have HNEG := Lib.hid hneg
  clear hneg
  rw [hLK]
  clear hLK
  obtain ⟨lits, hlits⟩ : ∃ lits, (S.cl ref).lits = lits := ⟨_, rfl⟩
  obtain ⟨bg, hbg⟩ : ∃ bg, S.begin ref = bg := ⟨_, rfl⟩
  obtain ⟨k, hk⟩ : ∃ k, lits.length = k := ⟨_, rfl⟩
  obtain ⟨pp, hpp⟩ : ∃ pp, (S.cl ref).p = pp := ⟨_, rfl⟩
  obtain ⟨qq, hqq⟩ : ∃ qq, (S.cl ref).q = qq := ⟨_, rfl⟩
  have hc := clause_any ref h.store ho.isRef ho.words
  rw [hbg, hlits, hk] at hc
  have HC := Lib.hid hc
  have hp := ho.p
  have hq := ho.q
  have hla := ho.lits
  rw [hlits, hk] at hp hq hla
  rw [hpp] at hp
  rw [hqq] at hq
  have hle := S.begin_le ho.isRef
  rw [hbg, hlits, hk] at hle
  have hwl := ho.words
  have c0 := h.tpt.pt_cell 0
  simp only [runCells] at c0
  have HH := Lib.hid h
  have HO := Lib.hid ho
  have hrl := ho.isRef
  have hrb : ref ≤ 1000000 := by have := S.cls_length_le; have := ho.words; omega
  obtain ⟨f, hf⟩ : ∃ f, gi lits pp = f := ⟨_, rfl⟩
  have HF := Lib.hid hf
  have hfm : (f != l) = true := by have := hm; unfold mineP at this; rw [hlits, hpp, hf] at this; simpa using this
  have hw : ∀ wb w1, L.wv = some wb → Drawn w w1 → w1.cell? ⟨wb, bg, none⟩ = some (.int .i64 (pp : Nat)) ∧ w1.cell? ⟨wb, bg + 1, none⟩ = some (.int .i64 (qq : Nat)) ∧ w1.cell? ⟨wb, bg + (2 + pp), none⟩ = some (.int .i64 f) ∧ ∀ j, j < k → w1.cell? ⟨wb, bg + (2 + j), none⟩ = some (.int .i64 (gi lits j)) := by
    intro wb w1 h1 h2
    have := (h.drawn h2).store.word_at ho.isRef h1 hbg hlits hk
    rw [hpp, hqq] at this
    exact ⟨this.1, this.2.1, by rw [this.2.2 pp hp, hf], this.2.2⟩
  have HW := Lib.hid hw
  have hql := hla pp hp
  rw [hf] at hql
  have HLA := Lib.hid hla
  have HMP := Lib.hid hm
  have HQQ := Lib.hid hqq
  have HLITS := Lib.hid hlits
  have HBG := Lib.hid hbg
  have HK := Lib.hid hk
  have HPP := Lib.hid hpp
  clear hf hc hm hlits hbg hk hpp hqq h ho hw hla
  go_enter Try.func45, Try.ntmps45
  go_wp2_with (first
    | (go_at_call 33; refine (HC.out).mono ?_; rintro e w1 ⟨⟨wb, hwb, rfl⟩, hD⟩; obtain ⟨d0, d1, d4, d2⟩ := HW.out _ _ hwb hD; have HWB := Lib.hid hwb; have HD2 := Lib.hid d2; clear hwb d2))
  obtain ⟨v, hv⟩ : ∃ v, R.is f = v := ⟨_, rfl⟩
  have hi := is_any f (HH.out.drawn hD) HO.out.run (by omega) (by omega)
  rw [hv] at hi
  have HI := Lib.hid hi
  have HV := Lib.hid hv
  clear hi hv
  refine (HI.out).mono ?_
  rintro e w1' ⟨rfl, rfl⟩
  have hrun := HH.out.drawn hD
  have HR := Lib.hid hrun
  clear hrun
  have HFIRST : Hid (lookF S R ref l = if 0 < v then ⟨false, false, S, R⟩ else match findNew R lits pp with
    | some i => ⟨true, false, (S.put ref ((S.cl ref).setQ i)).watch (gi lits i) ref, R⟩
    | none => if v < 0 then ⟨false, true, S, R⟩ else ⟨false, false, S, R.set f⟩) := by
    have h1 : otherOf S ref l = pp := by unfold otherOf; rw [HMP.out]; exact HPP.out
    have h2 : ∀ i, moveTo S ref l i = S.put ref ((S.cl ref).setQ i) := fun i => by unfold moveTo; rw [HMP.out]; rfl
    show lookF S R ref l = _
    unfold lookF
    simp only [h1, h2, HLITS.out, HF.out, HV.out]
    rfl
  by_cases hv0 : 0 < v
  · go_wp2
    go_ret2
    rw [← HL.out, HFIRST.out, if_pos hv0]
    exact ⟨rfl, _, _, HR.out, fun _ => rfl⟩
  · go_wp2
    go_loop [45] (fun i => ∃ j : Nat, j ≤ k ∧ i = .int .i64 j ∧ Hid (∀ i, i < j → fits R lits pp i = false)) (fun i => k - (intOf i).toNat)
    case atStart => exact ⟨0, Nat.zero_le _, rfl, (fun i hi => by omega : ∀ i, i < 0 → _)⟩
    case round =>
      obtain ⟨j, hj, rfl, HA⟩ := hrel
      by_cases hjk : j < k
      · obtain ⟨x, hx⟩ : ∃ x, gi lits j = x := ⟨_, rfl⟩
        have hxl := HLA.out j hjk
        have d5 : w1.cell? ⟨wb, bg + 2 + j, none⟩ = some (.int .i64 x) := by rw [Nat.add_assoc, HD2.out j hjk, hx]
        rw [hx] at hxl
        have HX := Lib.hid hx
        clear hx
        have hnext : fits R lits pp j = false → ∀ i, i < j + 1 → fits R lits pp i = false := by
          intro h0 i hi
          rcases Nat.lt_succ_iff_lt_or_eq.1 hi with h1 | h1
          · exact HA.out i h1
          · subst h1; exact h0
        have HN := Lib.hid hnext
        clear hnext
        by_cases hjq : j = pp
        · have hd : ((j : Int) != (pp : Int)) = false := by simp; omega
          have HJ := Lib.hid hjq
          clear hjq
          go_wp2
          go_round
          case rel => exact ⟨j + 1, by omega, by go_num, (HN.out (by unfold fits; rw [HJ.out]; simp) : ∀ i, i < j + 1 → _)⟩
          case measure => simp [intOf]; omega
        · have hd : ((j : Int) != (pp : Int)) = true := by simp; omega
          obtain ⟨u, hu⟩ : ∃ u, R.is x = u := ⟨_, rfl⟩
          have hix := is_any x HR.out HO.out.run (by omega) (by omega)
          rw [hu] at hix
          have HIX := Lib.hid hix
          have HU := Lib.hid hu
          clear hix hu
          by_cases hu0 : 0 ≤ u
          · have hwo := HR.out.store.twords
            rw [HWB.out] at hwo
            have hfind : findNew R lits pp = some j := find_range (by rw [HK.out]; exact hjk) HA.out (by unfold fits; rw [HX.out, HU.out]; simp; omega)
            have HF2 := Lib.hid hfind
            clear hfind
            go_wp2_with (first
              | (go_at_call 38; refine (HIX.out).mono ?_; rintro e w1' ⟨rfl, rfl⟩)
              | (refine wpList_store_sl rfl 3 _ _ rfl Try.sizeInt hwo (bg + 1) (.int .i64 (j : Nat)) rfl rfl rfl (by rw [ints_length]; omega) ?_; intro w2 h6; have h7 := StoreAt.putQ hrl HWB.out HR.out.ws (by rw [HBG.out]; exact h6); have e0 := (StoreAt.run h7).tpt.pt_cell 0; simp only [runCells] at e0; clear hwo h6)
              | (go_at_call 29; refine (watch_any x ref h7 (by omega) (by omega) hrb HO.out.wl HO.out.ws).mono ?_; rintro e w3 ⟨rfl, L3, h8, hkp⟩))
            go_ret2
            rw [← HL.out, HFIRST.out, if_neg (by omega), HF2.out]
            simp only [HX.out]
            exact ⟨rfl, _, _, StoreAt.run h8, fun hi => hkp.out _ hi (fun e => by have := idx_inj e; have h9 := HU.out; rw [← this] at h9; have := HNEG.out; omega)⟩
          · go_wp2_with (first
              | (go_at_call 38; refine (HIX.out).mono ?_; rintro e w1' ⟨rfl, rfl⟩))
            go_round
            case rel => exact ⟨j + 1, by omega, by go_num, (HN.out (by unfold fits; rw [HX.out, HU.out]; simp; omega) : ∀ i, i < j + 1 → _)⟩
            case measure => simp [intOf]; omega
      · have hfind : findNew R lits pp = none := find_range_none (fun i hi => HA.out i (by rw [HK.out] at hi; omega))
        have HF2 := Lib.hid hfind
        clear hfind
        by_cases hv1 : v < 0
        · go_wp2_with (first
            | (go_at_call 38; refine (HI.out).mono ?_; rintro e w1' ⟨rfl, rfl⟩))
          go_ret2
          rw [← HL.out, HFIRST.out, if_neg (by omega), HF2.out]
          simp only [if_pos hv1]
          exact ⟨rfl, _, _, HR.out, fun _ => rfl⟩
        · have hs := set_run_any f HR.out HO.out.run (by omega) (by omega) HO.out.room
          have HSET := Lib.hid hs
          clear hs
          go_wp2_with (first
            | (go_at_call 38; refine (HI.out).mono ?_; rintro e w1' ⟨rfl, rfl⟩)
            | (go_at_call 39; refine (HSET.out).mono ?_; rintro e w2 ⟨rfl, RL2, h8⟩))
          go_ret2
          rw [← HL.out, HFIRST.out, if_neg (by omega), HF2.out]
          simp only [if_neg (show ¬ v < 0 by omega)]
          exact ⟨rfl, _, _, h8, fun _ => rfl⟩
theorem look_any (ref : Nat) (l : Int) (h : RunAt B w0 w r p RL L R S F) (ho : LookOk S R ref) (hneg : R.is l < 0) :
    Calls Try.prog 45 #[.pointer (some ⟨r, 0, none⟩), .int .i64 ref, .int .i64 l] w (LookPost B w0 r p F L (idx l) (lookF S R ref l)) := by
  cases hm : mineP S ref l
  · exact look_q ref l h ho hneg hm
  · exact look_p ref l h ho hneg hm
end
end Go.Proofs.Ytmljcbdlkeooiaa

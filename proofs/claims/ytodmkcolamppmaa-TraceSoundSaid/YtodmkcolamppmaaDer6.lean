/-
  The contract of trace's derive.
-/
import Derived.Test.YtodmkcolamppmaaDer5
import Derived.Test.YtodmkcolamppmaaKeep
import Derived.Test.YtodmkcolamppmaaRws
namespace Go.Proofs.PlaitSep
open Go Go.RowKit Go.Proofs.PlaitPure
theorem setCell_others {w : World} {b i : Nat} {v : Value} (k : Nat) (hk : k ≠ b) : (w.setCell ⟨b, i, none⟩ v).heap[k]? = w.heap[k]? := by
  unfold World.setCell
  simp [Array.getElem?_modify, Ne.symm hk]
theorem NoInt.same {w w' : World} {b : Nat} (h : NoInt w b) (e : w'.heap[b]? = w.heap[b]?) : NoInt w' b := by
  intro i v hv
  refine h i v ?_
  rw [← hv]
  unfold World.cell?
  rw [e]
/-- No cell of the block, if there is one, is a number. -/
def NoI (w : World) (a : Option Nat) : Prop := ∀ b, a = some b → NoInt w b
theorem Rd.keepO {w w' : World} {a : Option Nat} {A : Option Addr} {n : Nat} {xs : List Int} (h : Rd w A n xs) (hb : NoI w a) (hk : ∀ k, k < w.heap.size → a ≠ some k → w'.heap[k]? = w.heap[k]?) : Rd w' A n xs :=
  h.keep fun b' o e hp => hk b' (h.lt b' o e hp) fun e2 => h.ne (hb b' e2) b' o e hp rfl
/-- What the rows of a slice say. -/
def RowsV (w : World) (V : List Value) (D : List (List Int)) : Prop := V.length = D.length ∧ ∀ j, j < D.length → ∃ A c, V[j]? = some (.slice A (gl D j).length c) ∧ Rd w A (gl D j).length (gl D j)
theorem RowsV.nil (w : World) : RowsV w [] [] := ⟨rfl, fun j hj => absurd hj (Nat.not_lt_zero j)⟩
theorem RowsV.grow {w w' : World} {V : List Value} {D : List (List Int)} (h : RowsV w V D) (hb : Below w.heap.size w w') : RowsV w' V D :=
  ⟨h.1, fun j hj => by obtain ⟨A, c, h1, h2⟩ := h.2 j hj; exact ⟨A, c, h1, h2.grow hb⟩⟩
theorem RowsV.keepO {w w' : World} {a : Option Nat} {V : List Value} {D : List (List Int)} (h : RowsV w V D) (hb : NoI w a) (hk : ∀ k, k < w.heap.size → a ≠ some k → w'.heap[k]? = w.heap[k]?) : RowsV w' V D :=
  ⟨h.1, fun j hj => by obtain ⟨A, c, h1, h2⟩ := h.2 j hj; exact ⟨A, c, h1, h2.keepO hb hk⟩⟩
theorem RowsV.noint {w : World} {V : List Value} {D : List (List Int)} (h : RowsV w V D) : ∀ u ∈ V, ∀ x, u ≠ .int .i64 x := by
  intro u hu x
  obtain ⟨j, hj, rfl⟩ := List.getElem_of_mem hu
  obtain ⟨A, c, h1, _⟩ := h.2 j (by rw [← h.1]; exact hj)
  rw [List.getElem?_eq_getElem hj] at h1
  simp only [Option.some.injEq] at h1
  rw [h1]
  simp
theorem gl_append_left {D : List (List Int)} {d : List Int} {j : Nat} (h : j < D.length) : gl (D ++ [d]) j = gl D j := by simp [gl, List.getD_eq_getElem?_getD, List.getElem?_append_left h]
theorem gl_append_last {D : List (List Int)} {d : List Int} : gl (D ++ [d]) D.length = d := by simp [gl, List.getD_eq_getElem?_getD]
theorem RowsV.snoc {w : World} {V : List Value} {D : List (List Int)} {A : Option Addr} {d : List Int} (h : RowsV w V D) (hr : Rd w A d.length d) (c n : Nat) (hn : d.length = n) : RowsV w (V ++ [.slice A n c]) (D ++ [d]) := by
  subst hn
  refine ⟨by simp [h.1], fun j hj => ?_⟩
  by_cases hjD : j < D.length
  · obtain ⟨A2, c2, h1, h2⟩ := h.2 j hjD
    refine ⟨A2, c2, ?_, by rw [gl_append_left hjD]; exact h2⟩
    rw [gl_append_left hjD, List.getElem?_append_left (by rw [h.1]; exact hjD)]
    exact h1
  · have e : j = D.length := by simp at hj; omega
    subst e
    refine ⟨A, c, ?_, by rw [gl_append_last]; exact hr⟩
    rw [gl_append_last, ← h.1]
    simp
theorem RowsV.rd2 {B : Nat} {w0 w : World} {F : HP} {e : TypeId} {a : Option Nat} {n c : Nat} {V : List Value} {D : List (List Int)} (h : RowsV w V D) (hst : St B w0 w (star (sl a n c e 1 V) F)) (hn : n ≤ 140737488355328) : Rd2 w (a.map fun b => ⟨b, 0, none⟩) n D := by
  obtain ⟨hx, _, _, hnone, _⟩ := hst.sat.sl_facts
  have hl : D.length = n := by rw [← h.1]; omega
  refine ⟨hl, hn, fun hp => ?_⟩
  cases a with
  | none => have := (hnone rfl).1; omega
  | some b =>
    refine ⟨b, 0, rfl, fun j hj => ?_⟩
    obtain ⟨A, c', h1, h2⟩ := h.2 j (by omega)
    refine ⟨A, c', ?_, h2⟩
    rw [Nat.zero_add, St.sl_cell (h := hst) j (by omega)]
    exact h1
theorem St.sl_lt {B : Nat} {w0 w : World} {F : HP} {e : TypeId} {a : Option Nat} {n c sz : Nat} {V : List Value} (hst : St B w0 w (star (sl a n c e sz V) F)) : ∀ b, a = some b → b < w.heap.size := by
  intro b hb
  subst hb
  obtain ⟨cur, _, _, _, _, _, hp⟩ := hst.sat.sl_pt
  exact (Array.getElem?_eq_some_iff.1 (Sat.one hp).1).1
theorem NoI.grow {w w' : World} {a : Option Nat} (h : NoI w a) (hlt : ∀ b, a = some b → b < w.heap.size) (hb : Below w.heap.size w w') : NoI w' a := fun b e => (h b e).same (hb.block b (hlt b e))
section
variable {P : Program} {ops : Array Oper} {rest : List Oper} {o : Oper} {a : Act} {Q : Exit → Act → World → Prop}
/-- A store into a block that is owned whole. -/
theorem wpList_store_ptk {w : World} (hgd : o.guard = none) (t : TypeId) (x y : Operand) (ho : o.op = .store t x y) (hsz : (P.info? t).map (·.size) = some 1)
    {B : Nat} {w0 : World} {b : Nat} {e : TypeId} {xs : List Value} {F : HP} (hst : St B w0 w (star (pt b e xs) F)) (i : Nat) (v : Value) (hx : a.eval x = .pointer (some ⟨b, i, none⟩)) (hy : a.eval y = v) (h1 : v.oneCell' = true) (hi : i < xs.length)
    (h : ∀ w', St B w0 w' (star (pt b e (xs.set i v)) F) → (∀ k, k ≠ b → w'.heap[k]? = w.heap[k]?) → wpList P ops Q rest (a.put o.dst undef) w') :
    wpList P ops Q (o :: rest) a w := by
  refine wpList_plain hgd fun K hK => ?_
  have hr := run_storeAt1 (P := P) (w := w) t b i v hsz h1 ⟨xs[i], by rw [hst.pt_cell i]; simp [hi]⟩ (hst.pt_free i)
  unfold Oper.wp execOp
  simp only [ho, hx, hy, Sem.run_bind, Sem.run_pure, hr, Result.andThen_ok]
  exact hK _ _ (h _ (hst.pt_set i v) fun k hk => setCell_others k hk)
theorem wpList_store_slk {w : World} (hgd : o.guard = none) (t : TypeId) (x y : Operand) (ho : o.op = .store t x y) (hsz : (P.info? t).map (·.size) = some 1)
    {B : Nat} {w0 : World} {b n c : Nat} {e : TypeId} {sz : Nat} {xs : List Value} {F : HP} (hst : St B w0 w (star (sl (some b) n c e sz xs) F)) (i : Nat) (v : Value) (hx : a.eval x = .pointer (some ⟨b, i, none⟩)) (hy : a.eval y = v) (h1 : v.oneCell' = true) (hi : i < xs.length)
    (h : ∀ w', St B w0 w' (star (sl (some b) n c e sz (xs.set i v)) F) → w' = w.setCell ⟨b, i, none⟩ v → wpList P ops Q rest (a.put o.dst undef) w') :
    wpList P ops Q (o :: rest) a w := by
  refine wpList_plain hgd fun K hK => ?_
  have hr := run_storeAt1 (P := P) (w := w) t b i v hsz h1 ⟨xs[i], by rw [hst.sl_cell i hi]; simp [hi]⟩ (hst.sl_free i)
  unfold Oper.wp execOp
  simp only [ho, hx, hy, Sem.run_bind, Sem.run_pure, hr, Result.andThen_ok]
  exact hK _ _ (h _ (hst.sl_set i v hi) rfl)
end
end Go.Proofs.PlaitSep
namespace Go.Proofs.Ytodmkcolamppmaa
open Go.RowKit Go.Proofs.PlaitSep Go.Proofs.PlaitPure

/-- What derive hands back. -/
def DerPost (w : World) (r : Option (List (List Int))) (e : Ending) (w' : World) : Prop :=
  Below w.heap.size w w' ∧ (∀ D, r = some D → ∃ a c V, e = .returned (.tuple #[.slice (a.map fun b => ⟨b, 0, none⟩) D.length c, .int .i64 0]) ∧ St w.heap.size w w' (star (sl a D.length c 51 1 V) emp) ∧ RowsV w' V D ∧ NoI w' a) ∧
    (r = none → e = .returned (.tuple #[.slice none 0 0, .int .i64 121]))
theorem Try.sizeRow : (Try.prog.info? 51).map (·.size) = some 1 := by kernel_rfl
theorem Try.sizeRows : (Try.prog.info? 22).map (·.size) = some 1 := by kernel_rfl
theorem derGo_cons {G D : List (List Int)} {s : List Int} {r : List (List Int)} : derGo G D (s :: r) = match stepF G D s with
    | none => none
    | some c => derGo G (D ++ [c]) r := rfl
theorem mem_flatten_len {G : List (List Int)} {g : List Int} (h : g ∈ G) : g.length ≤ G.flatten.length := by
  induction G with
  | nil => cases h
  | cons x r ih =>
    rw [List.flatten_cons, List.length_append]
    rcases List.mem_cons.1 h with rfl | h
    · omega
    · have := ih h; omega
set_option maxRecDepth 100000 in
set_option maxHeartbeats 4000000 in
theorem derive_any (AG : Option Addr) (nG cG : Nat) (G : List (List Int)) (AL : Option Addr) (nL cL : Nat) (l : List (List Int)) (w : World) (hG : Rd2 w AG nG G) (hL : Rd2 w AL nL l) (hcap : Caps w AL nL) (hnG : nG ≤ 1000000) (hnL : nL ≤ 1000000)
    (hsum : G.flatten.length ≤ 1000000) (hLs : ∀ j, j < nL → (gl l j).length ≤ 100000) :
    Calls Try.prog 40 #[.slice AG nG cG, .slice AL nL cL] w (DerPost w (derGo G [] l)) := by
  have HG := Lib.hid hG
  have HL := Lib.hid hL
  have HCAP := Lib.hid hcap
  have HGS := Lib.hid (show ∀ g ∈ G, g.length ≤ 1000000 from fun g hg => Nat.le_trans (mem_flatten_len hg) hsum)
  have HSUM := Lib.hid hsum
  have HLS := Lib.hid hLs
  have HST0 := Lib.hid ((St.start w).pt_new #[.slice AG nG cG, .slice none 0 0] 73)
  clear hG hL hcap hsum hLs
  go_enter Try.func40, Try.ntmps40
  go_wp2
  go_loopw [16] (fun v16 wr => ∃ (j : Nat) (a : Option Nat) (c : Nat) (V : List Value) (D : List (List Int)), j ≤ nL ∧ v16 = .int .i64 j ∧ Hid (D.length = j) ∧
    Hid (St w.heap.size w wr (star (pt w.heap.size 73 [.slice AG nG cG, .slice (a.map fun b => ⟨b, 0, none⟩) j c]) (star (sl a j c 51 1 V) emp))) ∧ Hid (RowsV wr V D) ∧ Hid (NoI wr a) ∧ Hid (GoodD G D) ∧ Hid (derGo G [] l = derGo G D (l.drop j))) (fun v16 _ => nL - (intOf v16).toNat)
  case atStart =>
    refine ⟨0, none, 0, [], [], Nat.zero_le _, rfl, (rfl : ([] : List (List Int)).length = 0), (?_ : St w.heap.size w _ (star (pt w.heap.size 73 [.slice AG nG cG, .slice none 0 0]) (star (sl none 0 0 51 1 []) emp))), RowsV.nil _, (fun b hb => (by cases hb) : NoI _ none), (fun d hd => (by cases hd) : GoodD G []), (rfl : derGo G [] l = derGo G [] (l.drop 0))⟩
    rw [sl_none, star_emp]
    exact HST0.out
  case round =>
    obtain ⟨j, a, c, V, D, hj, rfl, HDL, HST, HRV, HNI, HGD, HGO⟩ := hrel
    by_cases hjn : j < nL
    · obtain ⟨ab, ao, hA, hc⟩ := (HL.out.grow HST.out.below).cells (by omega)
      subst hA
      obtain ⟨Aj, cj, d1, hrj⟩ := hc j hjn
      have hcj := (HCAP.out.grow HL.out HST.out.below) ab ao j rfl hjn _ _ _ d1
      have hsm := HLS.out j hjn
      have hjl : j < l.length := by have := HL.out.len; omega
      have hdrop : l.drop j = gl l j :: l.drop (j + 1) := by rw [List.drop_eq_getElem_cons hjl, gl_eq l j hjl]
      obtain ⟨s, hs⟩ : ∃ s, gl l j = s := ⟨_, rfl⟩
      obtain ⟨ln, hln⟩ : ∃ ln, s.length = ln := ⟨_, rfl⟩
      rw [hs, hln] at d1 hrj hcj
      rw [hs, hln] at hsm
      have hgo : derGo G [] l = match stepF G D s with
          | none => none
          | some c => derGo G (D ++ [c]) (l.drop (j + 1)) := by rw [HGO.out, hdrop, hs, derGo_cons]
      have HGO2 := Lib.hid hgo
      have HRJ := Lib.hid hrj
      have hj0 : (0 : Int) ≤ (j : Int) := by omega
      have hj1 : (j : Int) < (nL : Int) := by omega
      have hba : Below wr.heap.size wr (wr.alloc (.cells #[.slice Aj ln cj] 57)) := (Below.refl _ _).alloc (Nat.le_refl _) _
      have HBA := Lib.hid hba
      have hda : DerAt wr w.heap.size AG nG cG (a.map fun b => ⟨b, 0, none⟩) j c G D :=
        ⟨HST.out.pt_cell 0, HST.out.pt_cell 1, HG.out.grow HST.out.below, HRV.out.rd2 (F := star (pt w.heap.size 73 [.slice AG nG cG, .slice (a.map fun b => ⟨b, 0, none⟩) j c]) emp) (HST.out.conseq (by ac_rfl)) (by omega)⟩
      have HDA := Lib.hid (hda.grow hba)
      have HDS := Lib.hid (show ∀ d ∈ D, d.length ≤ 1000000 from fun d hd => Nat.le_trans (HGD.out.len d hd) HSUM.out)
      clear hc hrj hs hln hdrop hjl hgo hba hda HGO
      go_wp2_with fail
      refine (step_any w.heap.size AG nG cG _ j c G D Aj ln cj s _ HDA.out hnG (by omega) HGS.out HDS.out (fun d hd => (HGD.out d hd).1) (HRJ.out.grow HBA.out) hsm hcj).mono ?_
      rintro e w2 ⟨hb2, hgood, hbad⟩
      have hb12 : Below wr.heap.size wr w2 := HBA.out.trans (hb2.mono (by simp))
      have HST2 := Lib.hid (HST.out.grow hb12)
      have HGOOD := Lib.hid hgood
      have HBAD := Lib.hid hbad
      have HB12 := Lib.hid hb12
      clear hb2 hgood hbad hb12 d1
      cases hst : stepF G D s with
      | none =>
        have he := HBAD.out hst
        subst he
        have HN := Lib.hid (show derGo G [] l = none by rw [HGO2.out, hst])
        clear hst
        go_wp2
        go_ret2
        exact ⟨HST2.out.below, fun D hD => (by rw [HN.out] at hD; cases hD), fun _ => rfl⟩
      | some x =>
        obtain ⟨A1, k1, rfl, hrd⟩ := HGOOD.out x hst
        have HNEW := Lib.hid (show derGo G [] l = derGo G (D ++ [x]) (l.drop (j + 1)) by rw [HGO2.out, hst])
        have HGD2 := Lib.hid (HGD.out.snoc hst)
        have HRDX := Lib.hid hrd
        have hslt := (HST.out.conseq (show _ = star (sl a j c 51 1 V) (star (pt w.heap.size 73 [.slice AG nG cG, .slice (a.map fun b => ⟨b, 0, none⟩) j c]) emp) by ac_rfl)).sl_lt
        have HNI2 := Lib.hid (HNI.out.grow hslt HB12.out)
        have HRV2 := Lib.hid (HRV.out.grow HB12.out)
        have hs3 : St w.heap.size w w2 (star (sl a j c 51 1 V) (star (pt w.heap.size 73 [.slice AG nG cG, .slice (a.map fun b => ⟨b, 0, none⟩) j c]) emp)) := HST2.out.conseq (by ac_rfl)
        have HS3 := Lib.hid hs3
        have d2 : w2.cell? ⟨w.heap.size, 1, none⟩ = some (.slice (a.map fun b => ⟨b, 0, none⟩) j c) := HST2.out.pt_cell 1
        obtain ⟨xl, hxl⟩ : ∃ xl, x.length = xl := ⟨_, rfl⟩
        have HXL := Lib.hid hxl
        rw [hxl]
        clear hst hrd hslt hs3 hxl HGOOD HBAD
        go_wp2_with (first
          | (at_builtin; refine wpList_append1k rfl _ _ 22 51 (.slice none 0 0) 24 rfl Try.underlying22 Try.infoRow rfl HS3.out rfl (.slice A1 xl k1) rfl rfl (by omega) (by simp only [maxLen]; omega) ?_; intro b' c' w3 h3 hk3 hq3; have H3 := Lib.hid h3; have HK3 := Lib.hid hk3; have HQ3 := Lib.hid hq3; have h5 := h3.conseq (show _ = star (pt w.heap.size 73 [.slice AG nG cG, .slice (a.map fun b => ⟨b, 0, none⟩) j c]) (star (sl (some b') (j + 1) c' 51 1 (V ++ [.slice A1 xl k1])) emp) by ac_rfl); clear h3 hk3 hq3)
          | (refine wpList_store_ptk rfl 22 _ _ rfl Try.sizeRows h5 1 (.slice (some ⟨b', 0, none⟩) (j + 1) c') rfl rfl rfl (by simp) ?_; intro w4 h6 hk6; have H5 := Lib.hid h5; have H6 := Lib.hid h6; have HK6 := Lib.hid hk6; clear h5 h6 hk6))
        have hne : w.heap.size ≠ b' := Sat.pt_sl_ne (F := emp) (H5.out.sat)
        have hni3 : NoI w3 (some b') := fun b0 e => by
          cases e
          exact fun i u hu => HQ3.out (fun u => ∀ x, u ≠ .int .i64 x) HRV2.out.noint (by simp) (by simp [Value.cells]) (fun b0 i u e hu => HNI2.out b0 e i u hu) i u hu
        have hrv3 : RowsV w3 (V ++ [.slice A1 xl k1]) (D ++ [x]) := (HRV2.out.keepO HNI2.out HK3.out).snoc (HRDX.out.keepO HNI2.out HK3.out) k1 xl HXL.out
        have hnp : NoI w3 (some w.heap.size) := fun b0 e => by
          cases e
          intro i u hu x
          rw [H5.out.pt_cell i] at hu
          match i, hu with
          | 0, hu => cases hu; simp
          | 1, hu => cases hu; simp
          | _ + 2, hu => simp at hu
        have hrv4 : RowsV _ (V ++ [.slice A1 xl k1]) (D ++ [x]) := hrv3.keepO hnp fun k _ hk => HK6.out k fun e => hk (by rw [e])
        have hni4 : NoI _ (some b') := fun b0 e => (hni3 b0 e).same (HK6.out b0 (by cases e; exact fun e => hne e.symm))
        have HRV4 := Lib.hid hrv4
        have HNI4 := Lib.hid hni4
        clear hne hni3 hrv3 hnp hrv4 hni4
        go_wp2
        go_roundw
        case rel => exact ⟨j + 1, some b', c', V ++ [Value.slice A1 xl k1], D ++ [x], by omega, by go_num, (by rw [List.length_append, HDL.out]; rfl : (D ++ [x]).length = j + 1), H6.out, HRV4.out, HNI4.out, HGD2.out, HNEW.out⟩
        case measure => simp [intOf]; omega
    · obtain rfl : j = nL := by omega
      have hfin : derGo G [] l = some D := by
        have := HGO.out
        rwa [List.drop_of_length_le (by have := HL.out.len; omega)] at this
      have HFIN := Lib.hid hfin
      have d2 : wr.cell? ⟨w.heap.size, 1, none⟩ = some (.slice (a.map fun b => ⟨b, 0, none⟩) j c) := HST.out.pt_cell 1
      have hs3 : St w.heap.size w wr (star (sl a j c 51 1 V) emp) := HST.out.dropl
      have HS3 := Lib.hid hs3
      clear hfin hs3
      go_wp2
      go_ret2
      refine ⟨HST.out.below, fun E hE => ?_, fun hE => (by rw [HFIN.out] at hE; cases hE)⟩
      rw [HFIN.out] at hE
      cases hE
      exact ⟨a, c, V, by rw [HDL.out]; rfl, by rw [HDL.out]; exact HS3.out, HRV.out, HNI.out⟩
end Go.Proofs.Ytodmkcolamppmaa

/- Contracts of package queue: slices.Delete at its elements. No statement is proved here. -/
import Derived.Test.YtcefaohdikongaaQueueB
import Derived.Laws.IdiomCopy
import Derived.Deep.RegionLaw
namespace Go.Proofs.Ytcefaohdikongaa
open Go.RowKit Go.Proofs.YtcefaohdikongaaW.PrintLast

theorem fl_take (L : List (Ms × Int)) (i : Nat) : (fl L).take (i * 11) = fl (L.take i) := by
  induction L generalizing i with
  | nil => simp [fl]
  | cons p r ih =>
    cases i with
    | zero => simp [fl]
    | succ i =>
      rw [List.take_succ_cons, fl_cons, fl_cons, List.take_append, List.take_of_length_le (by simp; omega), ← ih i]
      congr 2
      simp
      omega
theorem fl_drop (L : List (Ms × Int)) (i : Nat) : (fl L).drop (i * 11) = fl (L.drop i) := by
  induction L generalizing i with
  | nil => simp [fl]
  | cons p r ih =>
    cases i with
    | zero => simp
    | succ i =>
      rw [List.drop_succ_cons, fl_cons, List.drop_append, List.drop_of_length_le (by simp; omega), List.nil_append, ← ih i]
      congr 1
      simp
      omega
def setL (xs : List Value) : Nat → List Value → List Value
  | _, [] => xs
  | o, v :: r => setL (xs.set o v) (o + 1) r
theorem setL_eq : ∀ (vs : List Value) (o : Nat) (xs : List Value), o + vs.length ≤ xs.length → setL xs o vs = xs.take o ++ vs ++ xs.drop (o + vs.length)
  | [], o, xs, _ => by simp [setL]
  | v :: r, o, xs, h => by
    simp only [List.length_cons] at h
    rw [setL, setL_eq r (o + 1) (xs.set o v) (by rw [List.length_set]; omega)]
    have ho : o < xs.length := by omega
    have e1 : (xs.set o v).take (o + 1) = xs.take o ++ [v] := by
      rw [List.take_set, List.take_succ_eq_append_getElem ho, List.set_append_right _ _ (by simp; omega)]
      simp [Nat.min_eq_left (Nat.le_of_lt ho)]
    have e2 : (xs.set o v).drop (o + 1 + r.length) = xs.drop (o + (r.length + 1)) := by
      rw [List.drop_set_of_lt (by omega)]
      congr 1
      omega
    rw [e1, e2]
    simp
theorem own_setCells {base g n cap k : Nat} {t : TypeId} : ∀ (vs : List Value) (o : Nat) (w : World) (xs : List Value), w.ownsRow base t k (.slice (some ⟨g, 0, none⟩) n cap) n xs → (w.setCells g o vs).ownsRow base t k (.slice (some ⟨g, 0, none⟩) n cap) n (setL xs o vs)
  | [], _, _, _, h => h
  | v :: r, o, _, _, h => own_setCells r (o + 1) _ _ (own_set h v)
theorem chg_setCells {S : Nat → Prop} {w0 : World} {g : Nat} (hg : S g ∨ w0.heap.size ≤ g) : ∀ (vs : List Value) (o : Nat) (w : World), Chg S w0 w → Chg S w0 (w.setCells g o vs)
  | [], _, _, h => h
  | v :: r, o, _, h => chg_setCells hg r (o + 1) _ (h.setCell (p := ⟨g, o, none⟩) hg v)
theorem own_shrink {w : World} {base g n m cap k : Nat} {t : TypeId} {xs : List Value} (h : w.ownsRow base t k (.slice (some ⟨g, 0, none⟩) n cap) n xs) (hm : m ≤ n) : w.ownsRow base t k (.slice (some ⟨g, 0, none⟩) m cap) m (xs.take (m * k)) := by
  obtain ⟨h1, hr⟩ := h
  have hmk : m * k ≤ n * k := Nat.mul_le_mul_right k hm
  refine ⟨by rw [List.length_take, h1]; omega, ?_⟩
  rcases hr with ⟨h0, _⟩ | ⟨g', cap', cur, hv, hb, hB, hn, hc, hs, ht⟩
  · cases h0
  · cases hv
    exact .inr ⟨g, cap, cur, rfl, hb, hB, by omega, hc, hs, by rw [← ht, List.take_take, Nat.min_eq_left hmk]⟩
theorem own_cap {w : World} {base g n cap k : Nat} {t : TypeId} {xs : List Value} (h : w.ownsRow base t k (.slice (some ⟨g, 0, none⟩) n cap) n xs) : n ≤ cap ∧ cap ≤ 9223372036854775807 := by
  obtain ⟨_, hr⟩ := h
  rcases hr with ⟨h0, _⟩ | ⟨g', cap', cur, hv, hb, hB, hn, hc, hs, ht⟩
  · cases h0
  · cases hv
    exact ⟨hn, by unfold maxLen at hc; omega⟩
abbrev zw : List Value := el (msz, 0)
theorem clear_one (w : World) (b o c : Nat) (hc : ∀ j, j < 11 → (w.cell? ⟨b, o + j, none⟩).isSome = true ∧ w.frozen? ⟨b, o + j, none⟩ = false) (ty : TypeId) :
    (Builtin.clear_ #[60] ty #[.slice (some ⟨b, o, none⟩) 1 c]).run Try.prog w = .ok (.tuple #[]) (w.setCells b o zw) := by
  have hz : ∀ w, (zeroValue 67).run Try.prog w = .ok (.agg zw.toArray) w := fun w => by kernel_rfl
  have hst := run_storeCells_cells (P := Try.prog) b o zw 0 w (fun j hj => by rw [Nat.add_zero]; exact (hc j hj).1) (fun j hj => by rw [Nat.add_zero]; exact (hc j hj).2) (by intro v hv; simp only [List.mem_cons, List.not_mem_nil, or_false] at hv; rcases hv with rfl | rfl | rfl | rfl | rfl | rfl | rfl | rfl | rfl | rfl | rfl <;> rfl)
  have hzc : (Builtin.zeroCells (Value.agg zw.toArray).cells 1).toList = zw := by kernel_rfl
  simp only [Nat.add_zero] at hst
  simp [Builtin.clear_, run_underlying Try.underlying60, hz, hzc, hst]
set_option maxRecDepth 100000 in
set_option maxHeartbeats 4000000 in
theorem del_any (base b cap N i : Nat) (L : List (Ms × Int)) (w : World) (hL : L.length = N + 1) (hi : i ≤ N) (hown : w.ownsRow base 67 11 (.slice (some ⟨b, 0, none⟩) (N + 1) cap) (N + 1) (fl L)) (h1 : ∀ u ∈ fl L, u.oneCell' = true) :
    Calls Try.prog 26 #[.slice (some ⟨b, 0, none⟩) (N + 1 : Nat) cap, .int .i64 i, .int .i64 (i + 1 : Nat)] w fun e w' => e = .returned (.slice (some ⟨b, 0, none⟩) N cap) ∧ w'.ownsRow base 67 11 (.slice (some ⟨b, 0, none⟩) N cap) N (fl (L.eraseIdx i)) ∧ Chg (Only b) w w' := by
  obtain ⟨hcap, hmax⟩ := own_cap hown
  obtain ⟨i9, hi9, z9, s9, y9⟩ := info_parts Try.infW
  have hcell : ∀ j, j < (N + 1) * 11 → w.cell? ⟨b, j, none⟩ = (fl L)[j]? ∧ w.frozen? ⟨b, j, none⟩ = false := fun j hj => own_cell hown hj
  obtain ⟨news, hnews⟩ : ∃ news, news = fl (L.drop (i + 1)) := ⟨_, rfl⟩
  have hlen : news.length = (N - i) * 11 := by rw [hnews, fl_length, List.length_drop, hL]; congr 1; omega
  obtain ⟨A, hA, hsrc⟩ : ∃ A : Addr, (if cap = i + 1 then some (⟨b, 0, none⟩ : Addr) else some ⟨b, (i + 1) * 11, none⟩) = some A ∧ Hid (∀ t u, news[t]? = some u → w.drew.cell? (A.add t) = some u) := by
    by_cases h : cap = i + 1
    · refine ⟨⟨b, 0, none⟩, by simp [h], fun t u hu => ?_⟩
      have h0 : news.length = 0 := by rw [hlen]; omega
      rw [List.length_eq_zero_iff.1 h0] at hu
      simp at hu
    · refine ⟨⟨b, (i + 1) * 11, none⟩, by simp [h], fun t u hu => ?_⟩
      have ht : t < (N - i) * 11 := by
        have := (List.getElem?_eq_some_iff.1 hu).1
        rwa [hlen] at this
      rw [Addr.add_lit]
      refine (hcell ((i + 1) * 11 + t) (by omega)).1.trans ?_
      rw [← List.getElem?_drop, fl_drop, ← hnews]
      exact hu
  have s1 : Hid (news.length = (N - i) * 11) := hlen
  have s2 : Hid (∀ u ∈ news, u.oneCell' = true) := fun u hu => h1 u (List.mem_of_mem_drop (i := (i + 1) * 11) (by rw [fl_drop, ← hnews]; exact hu))
  have s3 : Hid (∀ t, t < news.length → (w.drew.cell? ⟨b, 0 + i * 11 + t, none⟩).isSome = true ∧ w.drew.frozen? ⟨b, 0 + i * 11 + t, none⟩ = false) := by
    intro t ht
    rw [hlen] at ht
    rw [Nat.zero_add]
    have h := hcell (i * 11 + t) (by omega)
    refine ⟨?_, h.2⟩
    show (w.cell? _).isSome = true
    rw [h.1, List.getElem?_eq_getElem (by rw [fl_length, hL]; omega)]
    rfl
  obtain ⟨W1, hW1⟩ : ∃ W1, W1 = w.drew.setCells b (0 + i * 11) news := ⟨_, rfl⟩
  have hO1 : W1.ownsRow base 67 11 (.slice (some ⟨b, 0, none⟩) (N + 1) cap) (N + 1) (setL (fl L) (0 + i * 11) news) := by rw [hW1]; exact own_setCells news _ _ _ hown
  have hC1 : Chg (Only b) w W1 := by rw [hW1]; exact chg_setCells (S := Only b) (.inl rfl) news _ _ (Chg.refl (Only b) w).drew
  have hcl := fun ty => clear_one W1 b (N * 11) (cap - N) (fun j hj => by
    have h := hO1
    obtain ⟨_, hr⟩ := h
    rcases hr with ⟨h0, _⟩ | ⟨g', cap', cur, hv, hb, hB, hn, hc, hs, ht⟩
    · cases h0
    · cases hv
      exact ⟨by rw [Blk.cell (w := W1) hB, Array.getElem?_eq_getElem (by omega)]; rfl, Blk.frozen (w := W1) hB _⟩) ty
  have hW : Hid (W1 = w.drew.setCells b (0 + i * 11) news) := hW1
  have HO := Lib.hid hO1
  have HC := Lib.hid hC1
  have HN := Lib.hid hnews
  have HL := Lib.hid hL
  have hic : i ≤ cap := by omega
  have hjc : i + 1 ≤ cap := by omega
  have hNi : N - i + i = N := by omega
  have hne : i ≠ i + 1 := by omega
  have hcN : ¬ cap = N := by omega
  have h01 : (0 : Int) ≤ (i : Int) + 1 := by omega
  have h02 : (i : Int) + 1 ≤ (N : Int) + 1 := by omega
  clear hW1 hO1 hC1 hcell hlen hown h1 hnews hL
  go_enter Try.func26, Try.ntmps26
  go_wp2_with fail
  refine start_ (n := 8) (S := fun w' => True) (ds := []) #[false, false, false, false, false, false, false, false] (by kernel_rfl) rfl rfl trivial (fun hHeld => ?_)
  refine pure_ (i := 0) (N := some 20) (v := ?_) (a' := ?_) #[true, false, false, false, false, false, false, false] rfl rfl (by kernel_rfl) (fun _ _ _ h => h) (Or.inl ⟨by rfl, ?_⟩) ?_ ?_
  rotate_left
  · intro w'
    go_simp
    with_reducible rfl
  rotate_left
  · simp only [Act.put, List.setIfInBounds_toArray, List.set_cons_zero, List.set_cons_succ]
    rfl
  refine pure_ (i := 1) (N := some 21) (v := ?_) (a' := ?_) #[true, true, false, false, false, false, false, false] rfl rfl (by kernel_rfl) (fun _ _ _ h => h) (Or.inl ⟨by rfl, ?_⟩) ?_ ?_
  rotate_left
  · intro w'
    go_simp
    with_reducible rfl
  rotate_left
  · simp only [Act.put, List.setIfInBounds_toArray, List.set_cons_zero, List.set_cons_succ]
    rfl
  refine pure_ (i := 2) (N := some 22) (v := ?_) (a' := ?_) #[true, true, true, false, false, false, false, false] rfl rfl (by kernel_rfl) (fun _ _ _ h => h) (Or.inl ⟨by rfl, ?_⟩) ?_ ?_
  rotate_left
  · intro w'
    go_simp
    with_reducible rfl
  rotate_left
  · simp only [Act.put, List.setIfInBounds_toArray, List.set_cons_zero, List.set_cons_succ]
    rfl
  refine pure_ (i := 3) (N := some 23) (v := ?_) (a' := ?_) #[true, true, true, true, false, false, false, false] rfl rfl (by kernel_rfl) (fun _ _ _ h => h) (Or.inl ⟨by rfl, ?_⟩) ?_ ?_
  rotate_left
  · intro w'
    go_simp
    with_reducible rfl
  rotate_left
  · simp only [Act.put, List.setIfInBounds_toArray, List.set_cons_zero, List.set_cons_succ]
    rfl
  refine pure_ (i := 4) (N := some 24) (v := ?_) (a' := ?_) #[true, true, true, true, true, false, false, false] rfl rfl (by kernel_rfl) (fun _ _ _ h => h) (Or.inl ⟨by rfl, ?_⟩) ?_ ?_
  rotate_left
  · intro w'
    go_simp
    with_reducible rfl
  rotate_left
  · simp only [Act.put, List.setIfInBounds_toArray, List.set_cons_zero, List.set_cons_succ]
    rfl
  refine pure_ (i := 5) (N := some 25) (v := ?_) (a' := ?_) #[true, true, true, true, true, true, false, false] rfl rfl (by kernel_rfl) (fun _ _ _ h => h) (Or.inl ⟨by rfl, ?_⟩) ?_ ?_
  rotate_left
  · intro w'
    go_simp
    with_reducible rfl
  rotate_left
  · simp only [Act.put, List.setIfInBounds_toArray, List.set_cons_zero, List.set_cons_succ]
    rfl
  refine one_ (i := 6) (N := some 26) #[true, true, true, true, true, true, true, false] rfl rfl (by kernel_rfl) (by decide) (fun K hK => ?_)
  refine step_append_room rfl (.tmp 22) (.tmp 25) 60 rfl 67 i9 11 Try.underlying60 hi9 s9 b 0 i cap (by simp [Act.eval]) A (N - i) (cap - (i + 1)) news (by simp [Act.eval]) s1.out hsrc.out s2.out (by omega) s3.out ?_
  rw [← hW.out]
  refine hK.out _ _ trivial (fun hHeld => ?_)
  clear hK K
  refine norm_ (a' := ?_) ?_ ?_
  rotate_left
  · show Act.put _ (some 26) _ = _
    simp only [Act.put, List.setIfInBounds_toArray, List.set_cons_zero, List.set_cons_succ]
    rfl
  refine pure_ (i := 7) (N := some 0) (v := ?_) (a' := ?_) #[true, true, true, true, true, true, true, true] rfl rfl (by kernel_rfl) (fun _ _ _ h => h) (Or.inl ⟨by rfl, ?_⟩) ?_ ?_
  rotate_left
  · intro w'
    go_simp
    with_reducible rfl
  rotate_left
  · simp only [Act.put, List.setIfInBounds_toArray, List.set_cons_zero]
    rfl
  refine done_ (by kernel_rfl) ?_
  go_wp2_with fail
  go_ret
  refine ⟨rfl, ?_, chg_setCells (S := Only b) (.inl rfl) zw _ _ HC.out⟩
  have h := own_shrink (own_setCells zw (N * 11) _ _ HO.out) (Nat.le_succ N)
  have hLl := HL.out
  have hfl : (fl L).length = (N + 1) * 11 := by rw [fl_length, hLl]
  have hnl := s1.out
  have e1 : setL (fl L) (0 + i * 11) news = (fl L).take (i * 11) ++ news ++ (fl L).drop (i * 11 + news.length) := by
    rw [Nat.zero_add]
    exact setL_eq news _ _ (by omega)
  have e2 : (setL (fl L) (0 + i * 11) news).length = (N + 1) * 11 := by
    rw [e1]
    simp only [List.length_append, List.length_take, List.length_drop]
    omega
  have e3 : (setL (setL (fl L) (0 + i * 11) news) (N * 11) zw).take (N * 11) = fl (L.eraseIdx i) := by
    rw [setL_eq zw _ _ (by rw [e2]; simp; omega), List.append_assoc, List.take_append_of_le_length (by rw [List.length_take, e2]; omega), List.take_take, Nat.min_self, e1]
    rw [List.take_append_of_le_length (by rw [List.length_append, List.length_take, hnl, hfl]; omega)]
    rw [List.take_of_length_le (by rw [List.length_append, List.length_take, hnl, hfl]; omega), fl_take, HN.out, ← fl_append, List.eraseIdx_eq_take_drop_succ]
  rw [e3] at h
  exact h
end Go.Proofs.Ytcefaohdikongaa

/- Contracts of package queue: Tick. No statement is proved here. -/
import Derived.Test.YtcefaohdikongaaQueue
namespace Go.Proofs.Ytcefaohdikongaa
open Go.RowKit Go.Proofs.YtcefaohdikongaaW.PrintLast

def bp (p : Ms × Int) : Ms × Int := (p.1, p.2 + 1)
def tk (L : List (Ms × Int)) (k : Nat) : List (Ms × Int) := (L.take k).map bp ++ L.drop k
theorem tk_length (L : List (Ms × Int)) {k : Nat} (h : k ≤ L.length) : (tk L k).length = L.length := by simp [tk]; omega
theorem tk_all (L : List (Ms × Int)) : tk L L.length = L.map bp := by simp [tk]
theorem tk_at (L : List (Ms × Int)) {k : Nat} (h : k < L.length) : (tk L k)[k]'(by rw [tk_length L (by omega)]; exact h) = L[k] := by
  simp only [tk]
  rw [List.getElem_append_right (by simp; omega)]
  simp [Nat.min_eq_left (Nat.le_of_lt h)]
theorem tk_succ (L : List (Ms × Int)) {k : Nat} (h : k < L.length) : tk L (k + 1) = (tk L k).set k (bp L[k]) := by
  simp only [tk]
  rw [List.drop_eq_getElem_cons h, List.take_succ_eq_append_getElem h, List.map_append, List.set_append_right _ _ (by simp; omega)]
  simp only [List.map_cons, List.map_nil, List.append_assoc, List.length_map, List.length_take, Nat.min_eq_left (Nat.le_of_lt h), Nat.sub_self, List.set_cons_zero, List.cons_append, List.nil_append]
theorem fl_set (L : List (Ms × Int)) {k : Nat} (h : k < L.length) (v : Int) : fl (L.set k (L[k].1, v)) = (fl L).set (k * 11 + 10) (.int .i64 v) := by
  induction L generalizing k with
  | nil => simp at h
  | cons p r ih =>
    cases k with
    | zero => rw [List.set_cons_zero, fl_cons, fl_cons, Nat.zero_mul, Nat.zero_add, List.set_append_left _ _ (by simp)]; rfl
    | succ k =>
      have hk : k < r.length := by simpa using h
      rw [List.set_cons_succ, fl_cons, fl_cons, List.set_append_right _ _ (by simp; omega), List.getElem_cons_succ, ih hk]
      congr 2
      simp
      omega
theorem own_set {w : World} {base g n cap k : Nat} {t : TypeId} {xs : List Value} (h : w.ownsRow base t k (.slice (some ⟨g, 0, none⟩) n cap) n xs) {j : Nat} (u : Value) :
    (w.setCell ⟨g, j, none⟩ u).ownsRow base t k (.slice (some ⟨g, 0, none⟩) n cap) n (xs.set j u) := by
  obtain ⟨h1, hr⟩ := h
  refine ⟨by rw [List.length_set]; exact h1, ?_⟩
  rcases hr with ⟨h0, _⟩ | ⟨g', cap', cur, hv, hb, hB, hn, hc, hs, ht⟩
  · cases h0
  · cases hv
    exact .inr ⟨g, cap, _, rfl, hb, Blk.set_ (w := w) hB j u, hn, hc, by rw [Array.size_setIfInBounds]; exact hs, by rw [Array.toList_setIfInBounds, List.take_set, ht]⟩
/-- What lies in the row. -/
theorem own_cell {w : World} {base g n cap : Nat} {L : List (Ms × Int)} (h : w.ownsRow base 67 11 (.slice (some ⟨g, 0, none⟩) n cap) n (fl L)) {j : Nat} (hj : j < n * 11) : w.cell? ⟨g, j, none⟩ = (fl L)[j]? ∧ w.frozen? ⟨g, j, none⟩ = false := by
  obtain ⟨_, hr⟩ := h
  rcases hr with ⟨h0, _⟩ | ⟨g', cap', cur, hv, hb, hB, hn, hc, hs, ht⟩
  · cases h0
  · cases hv
    refine ⟨?_, Blk.frozen (w := w) hB j⟩
    rw [Blk.cell (w := w) hB j, ← ht, List.getElem?_take_of_lt hj, Array.getElem?_toList]
theorem QA.bump {w : World} {g r g' cap : Nat} {most now : Int} {L : List (Ms × Int)} (q : QA w g r most now L (.slice (some ⟨g', 0, none⟩) L.length cap)) {k : Nat} (hk : k < L.length) (v : Int) :
    QA (w.setCell ⟨g', k * 11 + 10, none⟩ (.int .i64 v)) g r most now (L.set k (L[k].1, v)) (.slice (some ⟨g', 0, none⟩) L.length cap) := by
  have hg := (q.own_at (k := g') rfl).1
  have hr := q.rg
  refine ⟨q.blk.far (by show g ≠ g'; omega) _, ⟨q.ta.blk.far (by show r ≠ g'; omega) _, q.ta.lo, q.ta.hi, q.ta.top⟩, ?_, hr, ?_⟩
  · rw [List.length_set, fl_set L hk]
    exact own_set q.own _
  · rw [fl_set L hk]
    intro u hu
    rcases List.mem_or_eq_of_mem_set hu with hu | rfl
    · exact q.one u hu
    · rfl
theorem QA.form1 {w : World} {g r : Nat} {most now : Int} {L : List (Ms × Int)} {s : Value} (q : QA w g r most now L s) (h : 0 < L.length) : ∃ g' cap, s = .slice (some ⟨g', 0, none⟩) L.length cap ∧ L.length ≤ cap := by
  obtain ⟨_, ho⟩ := q.own
  rcases ho with ⟨rfl, h0⟩ | ⟨g', cap, cur, rfl, _, _, hc, _⟩
  · omega
  · exact ⟨_, _, rfl, hc⟩
theorem QA.wt {w : World} {g r g' cap : Nat} {most now : Int} {L : List (Ms × Int)} (q : QA w g r most now L (.slice (some ⟨g', 0, none⟩) L.length cap)) {k j : Nat} (hk : k < L.length) (hj : j < 11) :
    w.cell? ⟨g', k * 11 + j, none⟩ = (el L[k])[j]? ∧ w.frozen? ⟨g', k * 11 + j, none⟩ = false := by
  obtain ⟨h1, h2⟩ := own_cell q.own (j := k * 11 + j) (by omega)
  exact ⟨h1.trans (fl_at L hk hj), h2⟩
set_option maxHeartbeats 2000000 in
theorem tick_ft {w : World} {g r : Nat} {most now : Int} {L : List (Ms × Int)} {s : Value} (q : QA w g r most now L s) (hB : ∀ p ∈ L, 0 ≤ p.2 ∧ p.2 < 4611686018427387904) (hl : L.length ≤ 1000) :
    Calls Try.prog 12 #[.pointer (some ⟨g, 0, none⟩)] w fun e w' => e = .returned (.tuple #[]) ∧ QA w' g r most now (L.map bp) s ∧ Chg (Qp g r s) w w' := by
  have HQ := Lib.hid q
  obtain ⟨p, cap, rfl⟩ := q.form
  have c1 := q.blk.cell 1
  clear q
  go_enter Try.func12, Try.ntmps12
  go_wp2_with fail
  clear c1
  go_loopw [10] (fun i wr => ∃ k : Nat, k ≤ L.length ∧ i = .int .i64 k ∧ QA wr g r most now (tk L k) (.slice p L.length cap) ∧ Chg (Qp g r (.slice p L.length cap)) w wr) (fun i _ => L.length - (intOf i).toNat)
  case atStart => exact ⟨0, Nat.zero_le _, rfl, HQ.out, Chg.refl _ w⟩
  case round =>
    obtain ⟨k, hk, rfl, hq, hK⟩ := hrel
    have HQ := Lib.hid hq
    have HK := Lib.hid hK
    have c1 := hq.blk.cell 1
    clear hq hK
    by_cases hlt : k < L.length
    · have hk2 : decide ((k : Int) < (L.length : Int)) = true := by simpa using hlt
      have hkt : k < (tk L k).length := by rw [tk_length L hk]; exact hlt
      obtain ⟨g', cap', hs, hcap⟩ := HQ.out.form1 (by omega)
      rw [tk_length L hk] at hs hcap
      obtain ⟨rfl, rfl⟩ : p = some ⟨g', 0, none⟩ ∧ cap = cap' := by simpa using hs
      have HQ2 : Hid (QA wr g r most now (tk L k) (.slice (some ⟨g', 0, none⟩) (tk L k).length cap)) := Lib.hid (by rw [tk_length L hk]; exact HQ.out)
      have hw := HQ2.out.wt hkt (j := 10) (by decide)
      rw [tk_at L hlt] at hw
      have hc : wr.cell? ⟨g', k * 11 + 10, none⟩ = some (.int .i64 L[k].2) := hw.1
      have hf := hw.2
      obtain ⟨hb0, hb1⟩ := hB L[k] (List.getElem_mem hlt)
      have HS : Hid (QA (wr.setCell ⟨g', k * 11 + 10, none⟩ (.int .i64 (L[k].2 + 1))) g r most now (tk L (k + 1)) (.slice (some ⟨g', 0, none⟩) L.length cap)) := Lib.hid (by
        have h := HQ2.out.bump hkt (L[k].2 + 1)
        rw [tk_at L hlt] at h
        have e := tk_length L hk
        rw [e] at h
        rw [tk_succ L hlt]
        exact h)
      have hrg := HQ.out.rg
      have HK2 := Lib.hid (HK.out.trans ((Chg.refl (Qp g r (.slice (some ⟨g', 0, none⟩) L.length cap)) wr).setCell (p := ⟨g', k * 11 + 10, none⟩) (.inl (.inr (.inr rfl))) (.int .i64 (L[k].2 + 1))))
      clear hw hs HQ HQ2 HK
      generalize L[k].2 = v at *
      have h0 : (0 : Int) ≤ (k : Int) := by omega
      have h2 : (k : Int) < (L.length : Int) := by omega
      go_wp2_with fail
      go_roundw
      case rel => exact ⟨k + 1, by omega, by go_num, HS.out, HK2.out⟩
      case measure => simp [intOf]; omega
    · obtain rfl : k = L.length := by omega
      have hk2 : decide ((L.length : Int) < (L.length : Int)) = false := by simp
      have HQ2 := Lib.hid (tk_all L ▸ HQ.out)
      go_wp2_with fail
      go_end0
      exact ⟨rfl, HQ2.out, HK.out⟩
theorem tick_any {w : World} {g r : Nat} {most now : Int} {L : List (Ms × Int)} {s : Value} (q : QA w g r most now L s) (hB : ∀ p ∈ L, 0 ≤ p.2 ∧ p.2 < 4611686018427387904) (hl : L.length ≤ 1000) :
    Calls Try.prog 12 #[.pointer (some ⟨g, 0, none⟩)] w fun e w' => e = .returned (.tuple #[]) ∧ QA w' g r most now (L.map bp) s ∧ Kp r w w' :=
  (tick_ft q hB hl).mono fun _ _ ⟨he, hq, hC⟩ => ⟨he, hq, Kp.of_foot q hC⟩
end Go.Proofs.Ytcefaohdikongaa

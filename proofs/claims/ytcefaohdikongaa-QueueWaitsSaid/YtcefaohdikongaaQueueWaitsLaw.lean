/- QueueWaits: the plain law: who goes next. No program in sight. -/
import Derived.Test.YtcefaohdikongaaQueueUrgent
namespace Go.Proofs.Ytcefaohdikongaa

/-- What waits: in the order in which it came; weights. -/
def wq (W : Nat → Int) (S : List Nat) : List (Ms × Int) := S.map fun x : Nat => (ms0 (x : Int), W x)
theorem wq_length (W : Nat → Int) (S : List Nat) : (wq W S).length = S.length := by simp [wq]
theorem wq_wt (W : Nat → Int) (S : List Nat) {j : Nat} (h : j < S.length) : wt (wq W S) j = W S[j] := by
  rw [wt_at _ (by rw [wq_length]; exact h)]
  simp [wq]
def wT (n : Nat) (U : Nat → Int) (x : Nat) : Int := if x < n then 4 * U x + 13 else 4 * U x
structure Wv (n k i : Nat) (U : Nat → Int) (S : List Nat) (la : Nat → Int) : Prop where
  sorted : S.Pairwise (· < ·)
  len : S.length = k - i
  bd : ∀ x ∈ S, x < k
  cnt : S.countP (· < n) = n - i
  la : ∀ x ∈ S, la (U x).toNat ≤ (x : Int)
def updL (la : Nat → Int) (u : Nat) (x : Int) : Nat → Int := fun j => if j = u then x else la j
theorem Wv.step {n k i : Nat} {U : Nat → Int} {S : List Nat} {la : Nat → Int} (h : Wv n k i U S la) (hU : ∀ x, 0 ≤ U x ∧ U x ≤ 3) {b : Nat} (hb : b < (wq (wT n U) S).length) (hB : Bst (wq (wT n U) S) (wq (wT n U) S).length b) :
    ∃ x : Nat, (wq (wT n U) S)[b].1 = ms0 (x : Int) ∧ x < k ∧ x ∈ S ∧ (x < n ↔ i < n) ∧ la (U x).toNat ≤ (x : Int) ∧ Wv n k (i + 1) U (S.eraseIdx b) (updL la (U x).toNat x) ∧ (wq (wT n U) S).eraseIdx b = wq (wT n U) (S.eraseIdx b) ∧ x ∉ S.eraseIdx b := by
  have hb' : b < S.length := by rw [wq_length] at hb; exact hb
  have hle : ∀ j (hj : j < S.length), wT n U S[j] ≤ wT n U S[b] := fun j hj => by
    have := hB.le j (by rw [wq_length]; exact hj)
    rwa [wq_wt _ _ hj, wq_wt _ _ hb'] at this
  have hlt : ∀ j (hj : j < b), wT n U (S[j]'(by omega)) < wT n U S[b] := fun j hj => by
    have := hB.lt j hj
    rwa [wq_wt _ _ (show j < S.length by omega), wq_wt _ _ hb'] at this
  have hm : S[b] ∈ S := List.getElem_mem hb'
  have hcnt : (S.eraseIdx b).countP (fun x => decide (x < n)) + (if decide (S[b] < n) = true then 1 else 0) = S.countP (fun x => decide (x < n)) := by
    have hs : S = S.take b ++ S[b] :: S.drop (b + 1) := by rw [← List.drop_eq_getElem_cons hb', List.take_append_drop]
    have h2 := congrArg (List.countP fun x => decide (x < n)) hs
    rw [List.countP_append, List.countP_cons] at h2
    rw [List.eraseIdx_eq_take_drop_succ, List.countP_append, h2]
    omega
  rw [h.cnt] at hcnt
  have hxi : S[b] < n ↔ i < n := by
    constructor
    · intro hx
      by_cases hin : i < n
      · exact hin
      · rw [if_pos (by simpa using hx)] at hcnt
        omega
    · intro hin
      by_cases hx : S[b] < n
      · exact hx
      · exfalso
        have hpos : 0 < S.countP (fun x => decide (x < n)) := by rw [h.cnt]; omega
        obtain ⟨y, hy, hyn⟩ := List.countP_pos_iff.1 hpos
        obtain ⟨j, hj, rfl⟩ := List.getElem_of_mem hy
        have h1 := hle j hj
        have hyn' : S[j] < n := by simpa using hyn
        unfold wT at h1
        rw [if_pos hyn', if_neg hx] at h1
        have := hU S[j]
        have := hU S[b]
        omega
  have hnot : S[b] ∉ S.eraseIdx b := fun hin => by
    obtain ⟨j, hj, hjb, he⟩ := List.mem_eraseIdx_iff_getElem.1 hin
    have hp := List.pairwise_iff_getElem.1 h.sorted
    rcases Nat.lt_or_gt_of_ne hjb with h1 | h1
    · have := hp j b hj hb' h1; omega
    · have := hp b j hb' hj h1; omega
  refine ⟨S[b], by simp [wq], h.bd _ hm, hm, hxi, h.la _ hm, ⟨h.sorted.sublist (List.eraseIdx_sublist _ _), ?_, fun y hy => h.bd y (List.mem_of_mem_eraseIdx hy), ?_, ?_⟩, by unfold wq; rw [List.eraseIdx_eq_take_drop_succ, List.eraseIdx_eq_take_drop_succ, List.map_append, List.map_take, List.map_drop], hnot⟩
  · rw [List.length_eraseIdx_of_lt hb', h.len]; omega
  · by_cases hx : S[b] < n
    · rw [if_pos (by simpa using hx)] at hcnt
      have := hxi.1 hx
      omega
    · rw [if_neg (by simpa using hx)] at hcnt
      have : ¬ i < n := fun hh => hx (hxi.2 hh)
      omega
  · intro y hy
    have hyS := List.mem_of_mem_eraseIdx hy
    unfold updL
    split
    · next he =>
      obtain ⟨j, hj, hjb, rfl⟩ := List.mem_eraseIdx_iff_getElem.1 hy
      have h1 := hU S[j]
      have h2 := hU S[b]
      have he' : U S[j] = U S[b] := by omega
      have hp := List.pairwise_iff_getElem.1 h.sorted
      have h3 := hle j hj
      rcases Nat.lt_or_gt_of_ne hjb with hjl | hjl
      · have h4 := hlt j hjl
        unfold wT at h4 h3
        split at h4 <;> split at h4 <;> omega
      · have := hp b j hb' hj hjl
        omega
    · exact h.la y hyS
theorem Wv.start (n k : Nat) (U : Nat → Int) (hn : n ≤ k) : Wv n k 0 U (List.range k) (fun _ => -1) := by
  refine ⟨List.pairwise_lt_range, by simp, fun x hx => by simpa using hx, ?_, fun x _ => by show (-1 : Int) ≤ _; omega⟩
  have : ∀ m, m ≤ k → (List.range m).countP (fun x => decide (x < n)) = min m n := by
    intro m _
    induction m with
    | zero => simp
    | succ m ih =>
      rw [List.range_succ, List.countP_append, ih (by omega), List.countP_cons, List.countP_nil]
      by_cases h : m < n
      · rw [if_pos (by simpa using h)]; omega
      · rw [if_neg (by simpa using h)]; omega
  rw [this k (Nat.le_refl _)]
  omega
end Go.Proofs.Ytcefaohdikongaa

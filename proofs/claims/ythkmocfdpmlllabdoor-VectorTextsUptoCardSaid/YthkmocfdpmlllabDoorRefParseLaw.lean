/- The reference's Parse: the plain law of its loop. No statement is proved here. -/
import Derived.Test.YthkmocfdpmlllabDoorVectorBackLaw
namespace Go.Proofs.YthkmocfdpmlllabDoor

theorem join_two (x y : List UInt8) (r : List (List UInt8)) : Lib.join (x :: y :: r) [44] = x ++ 44 :: Lib.join (y :: r) [44] := by simp [Lib.join, List.intercalate]
/-- What is left behind place i is these parts, joined. -/
def Jn (l : List UInt8) (i : Nat) (P : List (List UInt8)) : Prop := i ≤ l.length ∧ l.drop i = Lib.join P [44] ∧ ∀ x ∈ P, ∀ c ∈ x, c ≠ 44
theorem Jn.at {l : List UInt8} {i : Nat} {x : List UInt8} {R : List (List UInt8)} (h : Jn l i (x :: R)) {j : Nat} (hj : j < x.length) : l[i + j]? = some x[j] := by
  have e := congrArg (fun z => z[j]?) h.2.1
  rw [List.getElem?_drop] at e
  rw [e]
  cases R with
  | nil => rw [Lib.join_one, List.getElem?_eq_getElem hj]
  | cons y R => rw [join_two, List.getElem?_append_left hj, List.getElem?_eq_getElem hj]
theorem Jn.end {l : List UInt8} {i : Nat} {x : List UInt8} (h : Jn l i [x]) : i + x.length = l.length := by
  have e := congrArg List.length h.2.1
  rw [List.length_drop, Lib.join_one] at e
  have := h.1
  omega
theorem Jn.comma {l : List UInt8} {i : Nat} {x y : List UInt8} {R : List (List UInt8)} (h : Jn l i (x :: y :: R)) : l[i + x.length]? = some 44 ∧ Jn l (i + x.length + 1) (y :: R) := by
  have e := congrArg (fun z => z[x.length]?) h.2.1
  rw [List.getElem?_drop, join_two, List.getElem?_append_right (Nat.le_refl _), Nat.sub_self] at e
  have hl := (List.getElem?_eq_some_iff.1 e).1
  refine ⟨e, by omega, ?_, fun z hz => h.2.2 z (List.mem_cons_of_mem _ hz)⟩
  have e2 := congrArg (List.drop (x.length + 1)) h.2.1
  rw [List.drop_drop, join_two] at e2
  rw [show i + x.length + 1 = i + (x.length + 1) by omega, e2, show x ++ 44 :: Lib.join (y :: R) [44] = (x ++ [44]) ++ Lib.join (y :: R) [44] by simp, List.drop_left' (by simp)]
theorem Jn.part {l : List UInt8} {i : Nat} {x : List UInt8} {R : List (List UInt8)} (h : Jn l i (x :: R)) : (l.drop i).take x.length = x := by
  rw [h.2.1]
  cases R with
  | nil => rw [Lib.join_one, List.take_length]
  | cons y R => rw [join_two, List.take_left']; rfl
theorem Jn.step {l : List UInt8} {a i : Nat} {x : List UInt8} {R : List (List UInt8)} (h : Jn l a (x :: R)) (h2 : i ≤ a + x.length) (hi : i < l.length) {c : UInt8} (hc : l[i]? = some c) (hn : c ≠ 44) : i + 1 ≤ a + x.length := by
  rcases Nat.lt_or_ge i (a + x.length) with h3 | h3
  · omega
  · obtain rfl : i = a + x.length := by omega
    cases R with
    | nil => have := h.end; omega
    | cons y R =>
      rw [h.comma.1] at hc
      exact absurd (Option.some.inj hc).symm hn
theorem Jn.stop {l : List UInt8} {a i : Nat} {x : List UInt8} {R : List (List UInt8)} (h : Jn l a (x :: R)) (h1 : a ≤ i) (h2 : i ≤ a + x.length) (hc : l[i]? = none ∨ l[i]? = some 44) : i = a + x.length := by
  rcases Nat.lt_or_ge i (a + x.length) with h3 | h3
  · have e := h.at (j := i - a) (by omega)
    rw [show a + (i - a) = i by omega] at e
    rw [e] at hc
    rcases hc with hc | hc
    · cases hc
    · exact absurd (Option.some.inj hc) (h.2.2 x List.mem_cons_self _ (List.getElem_mem _))
  · omega
/-- A vector's parts. -/
def vps (f : Vc) : List (List UInt8) := (decs f (top f 7 + 1)).map (·.data.toList)
theorem vps_length (f : Vc) : (vps f).length = top f 7 + 1 := by unfold vps; rw [List.length_map, decs_length]
theorem vps_get (f : Vc) {k : Nat} {x : List UInt8} {R : List (List UInt8)} (h : (vps f).drop k = x :: R) : k < top f 7 + 1 ∧ x = (dec (f k)).data.toList ∧ (vps f).drop (k + 1) = R := by
  have e := congrArg (fun z => z[0]?) h
  have e1 := congrArg (List.drop 1) h
  rw [List.getElem?_drop, Nat.add_zero] at e
  rw [List.drop_drop] at e1
  have hl := (List.getElem?_eq_some_iff.1 e).1
  rw [vps_length] at hl
  refine ⟨hl, ?_, e1⟩
  have : (vps f)[k]? = some (dec (f k)).data.toList := by simp [vps, decs, hl]
  rw [this] at e
  exact (Option.some.inj e).symm
/-- Where the reference stands in a text: nothing is said of a text that is no vector's. -/
def Rat (s : ByteArray) (i a k : Nat) (v : Vc) : Prop := ∀ f, may f = true → tx f = s →
  (∃ x R, (vps f).drop k = x :: R ∧ Jn s.data.toList a (x :: R) ∧ a ≤ i ∧ i ≤ a + x.length ∧ v = (fun j => if j < k then f j else 0)) ∨
  (i = s.size + 1 ∧ v = (fun j => if j < top f 7 + 1 then f j else 0))
theorem sz_list (s : ByteArray) : s.data.toList.length = s.size := Array.length_toList
theorem Rat.start (s : ByteArray) : Rat s 0 0 0 v0_ := fun f _ hs => by
  have hl := vps_length f
  match hp : vps f with
  | [] => rw [hp] at hl; cases hl
  | x :: R =>
    refine .inl ⟨x, R, rfl, ⟨Nat.zero_le _, ?_, ?_⟩, Nat.le_refl _, Nat.zero_le _, by funext j; simp⟩
    · rw [← hp, List.drop_zero, ← hs, tx_list]
      rfl
    · rw [← hp]
      exact decs_clean_ f _
theorem Rat.next {s : ByteArray} {i a k : Nat} {v : Vc} (h : Rat s i a k v) (hi : i < s.size) (hn : s[i] ≠ 44) : Rat s (i + 1) a k v := fun f hm hs => by
  rcases h f hm hs with ⟨x, R, h1, h2, h3, h4, h5⟩ | ⟨h1, _⟩
  · refine .inl ⟨x, R, h1, h2, by omega, h2.step h4 (by rw [sz_list]; exact hi) (c := s[i]) ?_ hn, h5⟩
    rw [Array.getElem?_toList, Array.getElem?_eq_getElem (show i < s.data.size from hi)]
    rfl
  · omega
/-- Where a part ends: it is a number's text. -/
theorem Rat.part {s : ByteArray} {i a k : Nat} {v : Vc} (h : Rat s i a k v) (hi : s.data.toList[i]? = none ∨ s.data.toList[i]? = some 44) (hl : i ≤ s.size) (f : Vc) (hm : may f = true) (hs : tx f = s) :
    k < 8 ∧ s.extract a i = dec (f k) ∧ 0 ≤ f k ∧ f k ≤ 1099511627776 := by
  rcases h f hm hs with ⟨x, R, h1, h2, h3, h4, h5⟩ | ⟨h1, _⟩
  · obtain ⟨hk, hx, _⟩ := vps_get f h1
    have ht := top_le f 7
    have he := h2.stop h3 h4 hi
    have hr := may_iff.1 hm k (by omega)
    unfold inr_ at hr
    refine ⟨by omega, ?_, hr.1, hr.2⟩
    apply ByteArray.ext
    apply Array.toList_inj.1
    rw [← hx, ByteArray.data_extract, Array.toList_extract, List.extract_eq_take_drop]
    have := h2.part
    rw [show i - a = x.length by omega]
    exact this
  · omega
theorem Rat.stop {s : ByteArray} {i a k : Nat} {v : Vc} (h : Rat s i a k v) (hi : s.data.toList[i]? = none ∨ s.data.toList[i]? = some 44) (hl : i ≤ s.size) {m : Int} (hmk : ∀ f, may f = true → tx f = s → m = f k) : Rat s (i + 1) (i + 1) (k + 1) (upd v k m) := fun f hm hs => by
  have hmf := hmk f hm hs
  rcases h f hm hs with ⟨x, R, h1, h2, h3, h4, h5⟩ | ⟨h1, _⟩
  · obtain ⟨hk, hx, hR⟩ := vps_get f h1
    have he := h2.stop h3 h4 hi
    have hv : upd v k m = fun j => if j < k + 1 then f j else 0 := by
      funext j
      unfold upd
      rw [h5, hmf]
      by_cases hjk : j = k
      · subst hjk; simp
      · by_cases h6 : j < k
        · rw [if_neg hjk, if_pos (by omega)]; simp [h6]
        · rw [if_neg hjk, if_neg (by omega)]; simp [h6]
    cases R with
    | nil =>
      right
      have hlen := congrArg List.length hR
      rw [List.length_drop, vps_length] at hlen
      simp at hlen
      have := h2.end
      rw [sz_list] at this
      have e : top f 7 = k := by omega
      exact ⟨by omega, by rw [hv, e]⟩
    | cons y R =>
      left
      have := h2.comma.2
      rw [← he] at this
      exact ⟨y, R, hR, this, Nat.le_refl _, Nat.le_add_right _ _, hv⟩
  · omega
theorem pok_iff {s : ByteArray} : pok s = true ↔ ∃ f, may f = true ∧ tx f = s := by
  constructor
  · intro h
    unfold pok at h
    simp only [Bool.and_eq_true, beq_iff_eq] at h
    refine ⟨_, h.1.2, ?_⟩
    have h2 := h.2
    rw [ByteArray.toList_eq, ByteArray.toList_eq] at h2
    exact ByteArray.ext (Array.toList_inj.1 h2)
  · rintro ⟨f, hm, rfl⟩
    rw [pok_tx, hm]
theorem pok_none {s : ByteArray} (h : ∀ f, may f = true → tx f = s → False) : pok s = false := by
  cases hp : pok s with
  | false => rfl
  | true =>
    obtain ⟨f, hm, hs⟩ := pok_iff.1 hp
    exact absurd (h f hm hs) id
theorem pout_is {s : ByteArray} {v : Vc} (hm : may v = true) (hs : tx v = s) : vec (pout s) = vec v := by
  rw [← hs]
  exact congrArg Value.agg (pout_tx hm)
theorem Rat.done {s : ByteArray} {i a k : Nat} {v : Vc} (h : Rat s i a k v) (hi : i = s.size + 1) (hn : ¬ (may v = true ∧ tx v = s)) : pok s = false := pok_none fun f hm hs => by
  rcases h f hm hs with ⟨x, R, h1, h2, h3, h4, h5⟩ | ⟨_, h5⟩
  · have hl := h2.1
    have : a + x.length ≤ s.data.toList.length := by
      have e := congrArg List.length h2.2.1
      rw [List.length_drop] at e
      have h6 : x.length ≤ (Lib.join (x :: R) [44]).length := by
        cases R with
        | nil => rw [Lib.join_one]; exact Nat.le_refl _
        | cons y R => rw [join_two, List.length_append]; omega
      omega
    rw [sz_list] at this
    omega
  · have hv : veq v f = true := veq_iff.2 fun j hj => by
      rw [h5]
      show (if j < top f 7 + 1 then f j else 0) = f j
      split
      · rfl
      · exact (top_zero f (show top f 7 < j by omega) (by omega)).symm
    exact hn ⟨by rw [may_va_ hv, hm], by rw [tx_congr hv, hs]⟩
end Go.Proofs.YthkmocfdpmlllabDoor

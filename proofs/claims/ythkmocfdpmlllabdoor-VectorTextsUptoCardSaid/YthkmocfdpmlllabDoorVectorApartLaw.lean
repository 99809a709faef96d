/- VectorApart: the plain law: what a text tells. No program in sight. -/
import Derived.Test.YthkmocfdpmlllabDoorVectorText
namespace Go.Proofs.YthkmocfdpmlllabDoor

/-- How many commas. -/
def commas (l : List UInt8) : Nat := l.countP (· == 44)
theorem dec_clean (u : Nat) : ∀ c ∈ Lib.decDigits u, c ≠ 44 := by
  intro c hc
  rw [Lib.decDigits_eq] at hc
  simp only [List.mem_map, List.mem_range] at hc
  obtain ⟨t, _, rfl⟩ := hc
  unfold Lib.dg
  have : ∀ d : Nat, d < 10 → UInt8.ofNat (48 + d) ≠ 44 := by decide
  exact this _ (Nat.mod_lt _ (by decide))
theorem itoa_clean {n : Int} (h : 0 ≤ n) : ∀ c ∈ Lib.itoa n, c ≠ 44 := by
  obtain ⟨u, rfl⟩ := Int.eq_ofNat_of_zero_le h
  rw [Lib.itoa_nonneg]
  exact dec_clean u
theorem commas_clean {l : List UInt8} (h : ∀ c ∈ l, c ≠ 44) : commas l = 0 := by
  unfold commas
  rw [List.countP_eq_zero]
  intro c hc
  simpa using h c hc
theorem commas_join : ∀ (L : List (List UInt8)), (∀ x ∈ L, ∀ c ∈ x, c ≠ 44) → commas (Lib.join L [44]) = L.length - 1
  | [], _ => rfl
  | [x], h => by rw [Lib.join_one]; exact commas_clean (h x (by simp))
  | x :: y :: r, h => by
    have ih := commas_join (y :: r) fun z hz => h z (List.mem_cons_of_mem _ hz)
    have e : Lib.join (x :: y :: r) [44] = x ++ ([44] ++ Lib.join (y :: r) [44]) := by simp [Lib.join, List.intercalate]
    have hx := commas_clean (h x (by simp))
    rw [e]
    unfold commas at *
    rw [List.countP_append, List.countP_append, hx, ih]
    simp
    omega
theorem split_one {x y r s : List UInt8} (hx : ∀ c ∈ x, c ≠ 44) (hy : ∀ c ∈ y, c ≠ 44) (h : x ++ 44 :: r = y ++ 44 :: s) : x = y ∧ r = s := by
  induction x generalizing y with
  | nil =>
    cases y with
    | nil => simpa using h
    | cons d y => simp at h; exact absurd h.1.symm (hy d (by simp))
  | cons c x ih =>
    cases y with
    | nil => simp at h; exact absurd h.1 (hx c (by simp))
    | cons d y =>
      simp only [List.cons_append, List.cons.injEq] at h
      obtain ⟨h1, h2⟩ := ih (fun c hc => hx c (List.mem_cons_of_mem _ hc)) (fun c hc => hy c (List.mem_cons_of_mem _ hc)) h.2
      exact ⟨by rw [h.1, h1], h2⟩
theorem join_inj : ∀ (L M : List (List UInt8)), (∀ x ∈ L, ∀ c ∈ x, c ≠ 44) → (∀ x ∈ M, ∀ c ∈ x, c ≠ 44) → L ≠ [] → M ≠ [] → Lib.join L [44] = Lib.join M [44] → L = M
  | [], _, _, _, h, _, _ => absurd rfl h
  | _ :: _, [], _, _, _, h, _ => absurd rfl h
  | [x], [y], _, _, _, _, h => by rw [Lib.join_one, Lib.join_one] at h; rw [h]
  | [x], y :: z :: s, hL, hM, _, _, h => by
    have h1 := commas_join [x] hL
    have h2 := commas_join (y :: z :: s) hM
    rw [h, h2] at h1
    simp at h1
  | x :: z :: r, [y], hL, hM, _, _, h => by
    have h1 := commas_join (x :: z :: r) hL
    have h2 := commas_join [y] hM
    rw [h, h2] at h1
    simp at h1
  | x :: x2 :: r, y :: y2 :: s, hL, hM, _, _, h => by
    have e : ∀ (a b : List UInt8) (t : List (List UInt8)), Lib.join (a :: b :: t) [44] = a ++ 44 :: Lib.join (b :: t) [44] := fun a b t => by simp [Lib.join, List.intercalate]
    rw [e, e] at h
    obtain ⟨h1, h2⟩ := split_one (hL x (by simp)) (hM y (by simp)) h
    have ih := join_inj (x2 :: r) (y2 :: s) (fun z hz => hL z (List.mem_cons_of_mem _ hz)) (fun z hz => hM z (List.mem_cons_of_mem _ hz)) (by simp) (by simp) h2
    rw [h1, ih]
def valOf (l : List UInt8) : Nat := l.foldl (fun a c => 10 * a + (c.toNat - 48)) 0
theorem valOf_dec (u : Nat) : valOf (Lib.decDigits u) = u := by
  induction u using Nat.strongRecOn with
  | _ u ih =>
    have hd : ∀ d : Nat, d < 10 → (UInt8.ofNat (48 + d)).toNat - 48 = d := by decide
    rw [Lib.decDigits]
    split
    · next h => simp [valOf]; omega
    · next h =>
      have := ih (u / 10) (by omega)
      unfold valOf at *
      rw [List.foldl_append, this]
      simp only [List.foldl_cons, List.foldl_nil, hd (u % 10) (Nat.mod_lt _ (by decide))]
      omega
theorem itoa_inj {n m : Int} (hn : 0 ≤ n) (hm : 0 ≤ m) (h : Lib.itoa n = Lib.itoa m) : n = m := by
  obtain ⟨u, rfl⟩ := Int.eq_ofNat_of_zero_le hn
  obtain ⟨v, rfl⟩ := Int.eq_ofNat_of_zero_le hm
  rw [Lib.itoa_nonneg, Lib.itoa_nonneg] at h
  have := congrArg valOf h
  rw [valOf_dec, valOf_dec] at this
  rw [this]
def Nat8 (f : Vc) : Prop := ∀ k, k < 8 → 0 ≤ f k
theorem decs_clean {f : Vc} (h : Nat8 f) {n : Nat} (hn : n ≤ 8) : ∀ x ∈ (decs f n).map (·.data.toList), ∀ c ∈ x, c ≠ 44 := by
  intro x hx
  simp only [decs, List.map_map, List.mem_map, List.mem_range] at hx
  obtain ⟨i, hi, rfl⟩ := hx
  exact itoa_clean (h i (by omega))
theorem tx_list (f : Vc) : (tx f).data.toList = Lib.join ((decs f (top f 7 + 1)).map (·.data.toList)) [44] := rfl
theorem commas_tx {f : Vc} (h : Nat8 f) : commas (tx f).data.toList = top f 7 := by
  have ht := top_le f 7
  rw [tx_list, commas_join _ (decs_clean h (by omega)), List.length_map, decs_length]
  omega
theorem top_pos {f : Vc} {k : Nat} (h : 0 < top f k) : f (top f k) ≠ 0 := by
  induction k with
  | zero => exact absurd h (by simp [top])
  | succ k ih =>
    unfold top at h ⊢
    split at h
    · next hz => rw [if_pos hz]; exact ih h
    · next hz => rw [if_neg hz]; exact hz
theorem tx_inj {f g : Vc} (hf : Nat8 f) (hg : Nat8 g) (h : tx f = tx g) : veq f g = true := by
  have h1 := commas_tx hf
  have h2 := commas_tx hg
  rw [h, h2] at h1
  have hl : (tx f).data.toList = (tx g).data.toList := by rw [h]
  have tf := top_le f 7
  have tg := top_le g 7
  rw [tx_list, tx_list] at hl
  have hL := join_inj _ _ (decs_clean hf (by omega)) (decs_clean hg (by omega)) (by simp [decs]) (by simp [decs]) hl
  rw [veq_iff]
  intro k hk
  by_cases hkt : k < top f 7 + 1
  · have e := congrArg (fun l => l[k]?) hL
    simp only [decs, List.getElem?_map, List.getElem?_range hkt, List.getElem?_range (show k < top g 7 + 1 by omega), Option.map_some, Option.some.injEq] at e
    exact itoa_inj (hf k hk) (hg k hk) e
  · rw [top_zero f (show top f 7 < k by omega) (by omega), top_zero g (show top g 7 < k by omega) (by omega)]
theorem top_congr {f g : Vc} {n : Nat} (h : ∀ k, k ≤ n → f k = g k) : top f n = top g n := by
  induction n with
  | zero => rfl
  | succ n ih =>
    unfold top
    rw [h (n + 1) (Nat.le_refl _), ih fun k hk => h k (by omega)]
theorem tx_congr {f g : Vc} (h : veq f g = true) : tx f = tx g := by
  have hk := veq_iff.1 h
  have ht := top_congr (f := f) (g := g) (n := 7) fun k hk' => hk k (by omega)
  have hl := top_le g 7
  unfold tx
  rw [ht]
  have : decs f (top g 7 + 1) = decs g (top g 7 + 1) := by
    unfold decs
    refine List.map_congr_left fun i hi => ?_
    rw [hk i (by simp at hi; omega)]
  rw [this]
end Go.Proofs.YthkmocfdpmlllabDoor

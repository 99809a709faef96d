/- Rows beside rows; messages one behind the other. No statement is proved here. -/
import Derived.Test.YtoefffjhjmjhfaaGreatCopied
import Derived.Test.YtoefffjhjmjhfaaGreatAppendAll
namespace Go.Proofs.YtoefffjhjmjhfaaGreat
open Go.RowKit

/-- Two rows, one beside the other. -/
def All2 {α β : Type} (R : α → β → Prop) : List α → List β → Prop
  | [], [] => True
  | a :: l, b :: m => R a b ∧ All2 R l m
  | _, _ => False
section
variable {α β : Type} {R S : α → β → Prop}
theorem All2.length : ∀ {l : List α} {m : List β}, All2 R l m → l.length = m.length
  | [], [], _ => rfl
  | _ :: _, _ :: _, h => by simp [All2.length h.2]
theorem All2.mono : ∀ {l : List α} {m : List β}, All2 R l m → (∀ a b, R a b → S a b) → All2 S l m
  | [], [], _, _ => trivial
  | _ :: _, _ :: _, h, k => ⟨k _ _ h.1, All2.mono h.2 k⟩
theorem All2.push : ∀ {l : List α} {m : List β} {a : α} {b : β}, All2 R l m → R a b → All2 R (l ++ [a]) (m ++ [b])
  | [], [], _, _, _, h => ⟨h, trivial⟩
  | _ :: _, _ :: _, _, _, h, k => ⟨h.1, All2.push h.2 k⟩
theorem All2.get : ∀ {l : List α} {m : List β}, All2 R l m → ∀ {i : Nat} (h : i < l.length) (h' : i < m.length), R l[i] m[i]
  | _ :: _, _ :: _, h, 0, _, _ => h.1
  | _ :: _, _ :: _, h, i + 1, h1, h2 => All2.get h.2 (i := i) (by simpa using h1) (by simpa using h2)
theorem All2.erase : ∀ {l : List α} {m : List β}, All2 R l m → ∀ i, All2 R (l.eraseIdx i) (m.eraseIdx i)
  | [], [], _, _ => trivial
  | _ :: _, _ :: _, h, 0 => h.2
  | _ :: _, _ :: _, h, i + 1 => ⟨h.1, All2.erase h.2 i⟩
theorem All2.map {γ : Type} {f : γ → α} : ∀ {l : List γ} {m : List β}, All2 R (l.map f) m → All2 (fun c b => R (f c) b) l m
  | [], [], _ => trivial
  | _ :: _, _ :: _, h => ⟨h.1, All2.map h.2⟩
theorem All2.map_of {γ : Type} {f : α → γ} {T : γ → β → Prop} : ∀ {l : List α} {m : List β}, All2 (fun a b => T (f a) b) l m → All2 T (l.map f) m
  | [], [], _ => trivial
  | _ :: _, _ :: _, h => ⟨h.1, All2.map_of h.2⟩
end
def fm (I : List Ms) : List Value := (I.map fun x => (mc x).toList).flatten
theorem fm_rows (I : List Ms) : ∀ r ∈ I.map fun x => (mc x).toList, r.length = 10 := fun r hr => by
  obtain ⟨x, _, rfl⟩ := List.mem_map.1 hr
  rfl
theorem fm_length (I : List Ms) : (fm I).length = I.length * 10 := by
  have := flat_len (fm_rows I)
  rwa [List.length_map] at this
theorem fm_append (I J : List Ms) : fm (I ++ J) = fm I ++ fm J := by unfold fm; rw [List.map_append, List.flatten_append]
theorem fm_one (x : Ms) : fm [x] = (mc x).toList := by simp [fm]
theorem flatten_take {n : Nat} : ∀ {rows : List (List Value)}, (∀ r ∈ rows, r.length = n) → ∀ i, rows.flatten.take (i * n) = (rows.take i).flatten
  | [], _, i => by simp
  | r :: rows, h, 0 => by simp
  | r :: rows, h, i + 1 => by
    have h0 := h r (by simp)
    rw [List.flatten_cons, List.take_append, List.take_of_length_le (by rw [h0, Nat.succ_mul]; omega), h0, show (i + 1) * n - n = i * n by rw [Nat.succ_mul]; omega, flatten_take (fun x hx => h x (by simp [hx])) i, List.take_succ_cons, List.flatten_cons]
theorem flatten_drop {n : Nat} : ∀ {rows : List (List Value)}, (∀ r ∈ rows, r.length = n) → ∀ i, rows.flatten.drop (i * n) = (rows.drop i).flatten
  | [], _, i => by simp
  | r :: rows, h, 0 => by simp
  | r :: rows, h, i + 1 => by
    have h0 := h r (by simp)
    rw [List.flatten_cons, List.drop_append, List.drop_of_length_le (by rw [h0, Nat.succ_mul]; omega), List.nil_append, h0, show (i + 1) * n - n = i * n by rw [Nat.succ_mul]; omega, flatten_drop (fun x hx => h x (by simp [hx])) i, List.drop_succ_cons]
theorem fm_take (I : List Ms) (i : Nat) : (fm I).take (i * 10) = fm (I.take i) := by unfold fm; rw [flatten_take (fm_rows I), List.map_take]
theorem fm_drop (I : List Ms) (i : Nat) : (fm I).drop (i * 10) = fm (I.drop i) := by unfold fm; rw [flatten_drop (fm_rows I), List.map_drop]
theorem fm_at (I : List Ms) {i j : Nat} (hi : i < I.length) (hj : j < 10) : (fm I)[i * 10 + j]? = (mc I[i])[j]? := by
  have h1 : (fm I)[i * 10 + j]? = ((fm I).drop (i * 10))[j]? := by rw [List.getElem?_drop]
  rw [h1, fm_drop, List.drop_eq_getElem_cons hi]
  unfold fm
  rw [List.map_cons, List.flatten_cons, List.getElem?_append_left (by simpa using hj), Array.getElem?_toList]
theorem MR.old {w : World} {A : Nat → Prop} {m : Mg} {x : Ms} (h : MR w A m x) : MR w (fun k => A k ∧ k < w.heap.size) m x := h.mono fun _ ha hk => ⟨ha, hk⟩
end Go.Proofs.YtoefffjhjmjhfaaGreat

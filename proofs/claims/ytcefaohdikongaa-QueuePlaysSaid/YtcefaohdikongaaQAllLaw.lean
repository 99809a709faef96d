/- QueueAll: the plain law: what is put is taken, each once. No program in sight. No statement is proved here. -/
import Derived.Test.YtcefaohdikongaaRefD
namespace Go.Proofs.Ytcefaohdikongaa
open Go.RowKit

theorem sameM_refl (a : Mg) : sameM a a := rfl
theorem sameM_symm {a b : Mg} (h : sameM a b) : sameM b a := Eq.symm h
theorem sameM_trans {a b c : Mg} (h : sameM a b) (k : sameM b c) : sameM a c := Eq.trans h k
noncomputable def cnt (c : Mg) (l : List Mg) : Nat := l.countP fun m => decide (sameM c m)
theorem cnt_erase (c : Mg) (l : List Mg) {i : Nat} (hi : i < l.length) : cnt c (l.eraseIdx i) + (if sameM c l[i] then 1 else 0) = cnt c l := by
  unfold cnt
  induction l generalizing i with
  | nil => simp at hi
  | cons x l ih =>
    cases i with
    | zero =>
      simp only [List.eraseIdx_cons_zero, List.getElem_cons_zero, List.countP_cons]
      split <;> simp_all
    | succ i =>
      have := ih (i := i) (by simpa using hi)
      simp only [List.eraseIdx_cons_succ, List.getElem_cons_succ, List.countP_cons]
      omega
/-- Of each kind as many in one as in the other. -/
def Alike (P1 P2 : List Mg) : Prop := ∀ c, cnt c P1 = cnt c P2
theorem Alike.refl (P : List Mg) : Alike P P := fun _ => rfl
theorem Alike.find {P1 P2 : List Mg} (h : Alike P1 P2) {b : Nat} (hb : b < P1.length) : ∃ j, ∃ hj : j < P2.length, sameM P2[j] P1[b] := by
  have h1 : 0 < cnt P1[b] P1 := List.countP_pos_iff.2 ⟨P1[b], List.getElem_mem hb, by simp [sameM_refl]⟩
  rw [h] at h1
  obtain ⟨x, hx, hs⟩ := List.countP_pos_iff.1 h1
  obtain ⟨j, hj, rfl⟩ := List.getElem_of_mem hx
  exact ⟨j, hj, sameM_symm (of_decide_eq_true hs)⟩
theorem Alike.erase {P1 P2 : List Mg} (h : Alike P1 P2) {b j : Nat} (hb : b < P1.length) (hj : j < P2.length) (hs : sameM P2[j] P1[b]) : Alike (P1.eraseIdx b) (P2.eraseIdx j) := fun c => by
  have h1 := cnt_erase c P1 hb
  have h2 := cnt_erase c P2 hj
  have h3 := h c
  have e : sameM c P1[b] ↔ sameM c P2[j] := ⟨fun h => sameM_trans h (sameM_symm hs), fun h => sameM_trans h hs⟩
  by_cases hc : sameM c P1[b]
  · rw [if_pos hc] at h1
    rw [if_pos (e.1 hc)] at h2
    omega
  · rw [if_neg hc] at h1
    rw [if_neg fun h => hc (e.2 h)] at h2
    omega
/-- Two rows, one beside the other. -/
def All2 {α β : Type} (R : α → β → Prop) : List α → List β → Prop
  | [], [] => True
  | a :: l, b :: m => R a b ∧ All2 R l m
  | _, _ => False
section
variable {α β : Type} {R S : α → β → Prop}
theorem All2.length : ∀ {l : List α} {m : List β}, All2 R l m → l.length = m.length
  | [], [], _ => rfl
  | _ :: _, _ :: _, h => by simp [All2.length h.2]
theorem All2.mono : ∀ {l : List α} {m : List β}, All2 R l m → (∀ a b, R a b → S a b) → All2 S l m
  | [], [], _, _ => trivial
  | _ :: _, _ :: _, h, k => ⟨k _ _ h.1, All2.mono h.2 k⟩
theorem All2.push : ∀ {l : List α} {m : List β} {a : α} {b : β}, All2 R l m → R a b → All2 R (l ++ [a]) (m ++ [b])
  | [], [], _, _, _, h => ⟨h, trivial⟩
  | _ :: _, _ :: _, _, _, h, k => ⟨h.1, All2.push h.2 k⟩
theorem All2.get : ∀ {l : List α} {m : List β}, All2 R l m → ∀ {i : Nat} (h : i < l.length) (h' : i < m.length), R l[i] m[i]
  | _ :: _, _ :: _, h, 0, _, _ => h.1
  | _ :: _, _ :: _, h, i + 1, h1, h2 => All2.get h.2 (i := i) (by simpa using h1) (by simpa using h2)
theorem All2.erase : ∀ {l : List α} {m : List β}, All2 R l m → ∀ i, All2 R (l.eraseIdx i) (m.eraseIdx i)
  | [], [], _, _ => trivial
  | _ :: _, _ :: _, h, 0 => h.2
  | _ :: _, _ :: _, h, i + 1 => ⟨h.1, All2.erase h.2 i⟩
theorem All2.map {γ : Type} {f : γ → α} : ∀ {l : List γ} {m : List β}, All2 R (l.map f) m → All2 (fun c b => R (f c) b) l m
  | [], [], _ => trivial
  | _ :: _, _ :: _, h => ⟨h.1, All2.map h.2⟩
theorem All2.map_of {γ : Type} {f : α → γ} {T : γ → β → Prop} : ∀ {l : List α} {m : List β}, All2 (fun a b => T (f a) b) l m → All2 T (l.map f) m
  | [], [], _ => trivial
  | _ :: _, _ :: _, h => ⟨h.1, All2.map_of h.2⟩
end
end Go.Proofs.Ytcefaohdikongaa

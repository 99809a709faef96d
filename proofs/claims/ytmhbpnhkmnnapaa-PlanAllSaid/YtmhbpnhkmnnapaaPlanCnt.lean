/- Plain law for PlanAll: in a round, from any tick on, each other node is told of each bucket just once. No Go in it. -/
namespace Go.Proofs.Ytmhbpnhkmnnapaa.Cnt

def peer (n s t : Nat) : Nat := (s + 1 + t % (n - 1)) % n
def buck (n t : Nat) : Nat := t / (n - 1) % 4
def idx (n s t : Nat) : Nat := peer n s t * 4 + buck n t
/-- The counts behind k ticks, from tick t on. -/
def cells (n s t : Nat) : Nat → List Nat
  | 0 => List.replicate (n * 4) 0
  | k + 1 => (cells n s t k).set (idx n s (t + k)) ((cells n s t k).getD (idx n s (t + k)) 0 + 1)

theorem length_cells (n s t k : Nat) : (cells n s t k).length = n * 4 := by
  induction k with
  | zero => simp [cells]
  | succ k ih => simp [cells, ih]

theorem cells_le (n s t k : Nat) : ∀ i, (cells n s t k).getD i 0 ≤ k := by
  induction k with
  | zero =>
    intro i
    simp only [cells, List.getD_eq_getElem?_getD, List.getElem?_replicate]
    split <;> simp
  | succ k ih =>
    intro i
    simp only [cells, List.getD_eq_getElem?_getD]
    rw [List.getElem?_set]
    have h := ih i
    have h' := ih (idx n s (t + k))
    rw [List.getD_eq_getElem?_getD] at h h'
    split
    · split
      · simp only [Option.getD_some]; omega
      · simp
    · omega
theorem peer_ne {n s t : Nat} (hn : 2 ≤ n) (hs : s < n) : peer n s t ≠ s := by
  unfold peer
  have h := Nat.mod_lt t (show 0 < n - 1 by omega)
  generalize t % (n - 1) = r at *
  by_cases h2 : s + 1 + r < n
  · rw [Nat.mod_eq_of_lt h2]; omega
  · rw [Nat.mod_eq_sub_mod (by omega), Nat.mod_eq_of_lt (by omega)]; omega
theorem peer_lt {n : Nat} (h : 0 < n) (s t : Nat) : peer n s t < n := Nat.mod_lt _ h
theorem buck_lt (n t : Nat) : buck n t < 4 := Nat.mod_lt _ (by omega)

theorem peer_mod {n s t k : Nat} : peer n s (t % ((n - 1) * 4) + k) = peer n s (t + k) := by
  unfold peer
  have h : (t % ((n - 1) * 4) + k) % (n - 1) = (t + k) % (n - 1) := by
    rw [Nat.add_mod, Nat.mod_mul_right_mod, ← Nat.add_mod]
  rw [h]
theorem buck_mod {n t k : Nat} (hn : 2 ≤ n) : buck n (t % ((n - 1) * 4) + k) = buck n (t + k) := by
  unfold buck
  have h1 := Nat.div_add_mod t ((n - 1) * 4)
  generalize t % ((n - 1) * 4) = r at *
  have h2 : t + k = r + k + (n - 1) * (4 * (t / ((n - 1) * 4))) := by
    have : (n - 1) * 4 * (t / ((n - 1) * 4)) = (n - 1) * (4 * (t / ((n - 1) * 4))) := by rw [Nat.mul_assoc]
    omega
  rw [h2, Nat.add_mul_div_left _ _ (by omega), Nat.add_mul_mod_self_left]
theorem cells_mod {n s t : Nat} (hn : 2 ≤ n) (k : Nat) : cells n s (t % ((n - 1) * 4)) k = cells n s t k := by
  induction k with
  | zero => rfl
  | succ k ih => simp only [cells, ih, idx, peer_mod, buck_mod hn]

def good (n s t : Nat) : Bool := (List.range n).all fun i => (List.range 4).all fun j => (cells n s t ((n - 1) * 4)).getD (i * 4 + j) 0 == if i = s then 0 else 1
theorem good_all : (List.range 7).all (fun a => (List.range (a + 2)).all fun s => (List.range ((a + 1) * 4)).all fun t => good (a + 2) s t) = true := by decide +kernel

theorem told {n s t : Nat} (hn : 2 ≤ n) (h8 : n ≤ 8) (hs : s < n) {i j : Nat} (hi : i < n) (hj : j < 4) : (cells n s t ((n - 1) * 4)).getD (i * 4 + j) 0 = if i = s then 0 else 1 := by
  rw [← cells_mod hn]
  have hr := Nat.mod_lt t (show 0 < (n - 1) * 4 by omega)
  generalize t % ((n - 1) * 4) = r at *
  have h := good_all
  rw [List.all_eq_true] at h
  have h1 := h (n - 2) (List.mem_range.2 (by omega))
  rw [List.all_eq_true] at h1
  have h2 := h1 s (List.mem_range.2 (by omega))
  rw [List.all_eq_true] at h2
  have h3 := h2 r (List.mem_range.2 (by omega))
  rw [show n - 2 + 2 = n by omega] at h3
  unfold good at h3
  rw [List.all_eq_true] at h3
  have h4 := h3 i (List.mem_range.2 hi)
  rw [List.all_eq_true] at h4
  have h5 := h4 j (List.mem_range.2 hj)
  simpa using h5
end Go.Proofs.Ytmhbpnhkmnnapaa.Cnt

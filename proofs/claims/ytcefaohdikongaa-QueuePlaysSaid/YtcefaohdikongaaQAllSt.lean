/- QueueAll: the law's state, and how it stands behind each step. No statement is proved here. -/
import Derived.Test.YtcefaohdikongaaQAllLaw
import Derived.Test.YtcefaohdikongaaQCalls
namespace Go.Proofs.Ytcefaohdikongaa
open Go.RowKit Go.Proofs.YtcefaohdikongaaW.PrintLast

def fm (I : List Ms) : List Value := (I.map fun x => (mc x).toList).flatten
theorem fm_rows (I : List Ms) : ∀ r ∈ I.map fun x => (mc x).toList, r.length = 10 := fun r hr => by
  obtain ⟨x, _, rfl⟩ := List.mem_map.1 hr
  rfl
theorem fm_length (I : List Ms) : (fm I).length = I.length * 10 := by
  have := flat_len (fm_rows I)
  rwa [List.length_map] at this
theorem fm_append (I J : List Ms) : fm (I ++ J) = fm I ++ fm J := by unfold fm; rw [List.map_append, List.flatten_append]
theorem fm_one (x : Ms) : fm [x] = (mc x).toList := by simp [fm]
theorem flatten_take {n : Nat} : ∀ {rows : List (List Value)}, (∀ r ∈ rows, r.length = n) → ∀ i, rows.flatten.take (i * n) = (rows.take i).flatten
  | [], _, i => by simp
  | r :: rows, h, 0 => by simp
  | r :: rows, h, i + 1 => by
    have h0 := h r (by simp)
    rw [List.flatten_cons, List.take_append, List.take_of_length_le (by rw [h0, Nat.succ_mul]; omega), h0, show (i + 1) * n - n = i * n by rw [Nat.succ_mul]; omega, flatten_take (fun x hx => h x (by simp [hx])) i, List.take_succ_cons, List.flatten_cons]
theorem flatten_drop {n : Nat} : ∀ {rows : List (List Value)}, (∀ r ∈ rows, r.length = n) → ∀ i, rows.flatten.drop (i * n) = (rows.drop i).flatten
  | [], _, i => by simp
  | r :: rows, h, 0 => by simp
  | r :: rows, h, i + 1 => by
    have h0 := h r (by simp)
    rw [List.flatten_cons, List.drop_append, List.drop_of_length_le (by rw [h0, Nat.succ_mul]; omega), List.nil_append, h0, show (i + 1) * n - n = i * n by rw [Nat.succ_mul]; omega, flatten_drop (fun x hx => h x (by simp [hx])) i, List.drop_succ_cons]
theorem fm_take (I : List Ms) (i : Nat) : (fm I).take (i * 10) = fm (I.take i) := by unfold fm; rw [flatten_take (fm_rows I), List.map_take]
theorem fm_drop (I : List Ms) (i : Nat) : (fm I).drop (i * 10) = fm (I.drop i) := by unfold fm; rw [flatten_drop (fm_rows I), List.map_drop]
theorem fm_at (I : List Ms) {i j : Nat} (hi : i < I.length) (hj : j < 10) : (fm I)[i * 10 + j]? = (mc I[i])[j]? := by
  have h1 : (fm I)[i * 10 + j]? = ((fm I).drop (i * 10))[j]? := by rw [List.getElem?_drop]
  rw [h1, fm_drop, List.drop_eq_getElem_cons hi]
  unfold fm
  rw [List.map_cons, List.flatten_cons, List.getElem?_append_left (by simpa using hj), Array.getElem?_toList]
/-- What neither the queue nor the row of messages lies in. -/
abbrev Dt (g r : Nat) (s v : Value) : Nat → Prop := fun k => k ≠ g ∧ k ≠ r ∧ s.ownBlock ≠ some k ∧ v.ownBlock ≠ some k
structure St (w0 w : World) (g : Nat) (s v : Value) (now : Int) (L : List (Ms × Int)) (P1 : List Mg) (I : List Ms) (P2 : List Mg) : Prop where
  q : QA w g w0.heap.size 50 now L s
  own : w.ownsRow w0.heap.size 31 10 v I.length (fm I)
  vb : ∀ k, v.ownBlock = some k → k ≠ g ∧ k ≠ w0.heap.size ∧ s.ownBlock ≠ some k
  c : Chg NoB w0 w
  l : All2 (fun p m => MR w (Dt g w0.heap.size s v) m p.1) L P1
  i : All2 (fun x m => MR w (fun k => k < w0.heap.size) m x) I P2
section
variable {w0 w w' w4 : World} {g : Nat} {s s' v v' : Value} {now now' : Int} {L L' : List (Ms × Int)} {P1 P2 : List Mg} {I : List Ms}
theorem MR.old {w : World} {A : Nat → Prop} {m : Mg} {x : Ms} (h : MR w A m x) : MR w (fun k => A k ∧ k < w.heap.size) m x := h.mono fun _ ha hk => ⟨ha, hk⟩
theorem St.st (h : St w0 w g s v now L P1 I P2) (hC : Chg NoB w w') : St w0 w' g s v now L P1 I P2 :=
  ⟨h.q.chg hC, own_chg h.own hC fun _ _ => id, h.vb, h.c.trans hC, h.l.mono fun _ _ k => k.st hC, h.i.mono fun _ _ k => k.st hC⟩
theorem St.foot (h : St w0 w g s v now L P1 I P2) {k : Nat} (hk : Qp g w0.heap.size s k) : w0.heap.size ≤ k := by
  have := h.q.rg
  rcases hk with rfl | rfl | hk
  · omega
  · omega
  · have := (h.q.own_at hk).1; omega
/-- Behind a turn of the queue that leaves its messages where they were. -/
theorem St.turn (h : St w0 w g s v now L P1 I P2) (hC : Chg (Qp g w0.heap.size s) w w') (hq : QA w' g w0.heap.size 50 now' L' s') (hs : s'.ownBlock = s.ownBlock) (hl : All2 (fun p m => MR w (Dt g w0.heap.size s v) m p.1) L' P1) : St w0 w' g s' v now' L' P1 I P2 :=
  ⟨hq, own_chg h.own hC fun k hk hq => by
      obtain ⟨h1, h2, h3⟩ := h.vb k hk
      rcases hq with rfl | rfl | hq
      · exact h1 rfl
      · exact h2 rfl
      · exact h3 hq, fun k hk => by rw [hs]; exact h.vb k hk, h.c.then_ hC fun j hj hs => by have := h.foot hs; omega,
    hl.mono fun _ _ k => (k.chg hC fun j hj _ hq => by
      rcases hq with rfl | rfl | hq
      · exact hj.1 rfl
      · exact hj.2.1 rfl
      · exact hj.2.2.1 hq).mono fun j hj _ => ⟨hj.1, hj.2.1, by rw [hs]; exact hj.2.2.1, hj.2.2.2⟩,
    h.i.mono fun _ _ k => k.chg hC fun j hj _ hq => by have := h.foot hq; omega⟩
theorem St.tick (h : St w0 w g s v now L P1 I P2) (hC : Chg (Qp g w0.heap.size s) w w') (hq : QA w' g w0.heap.size 50 now (L.map bp) s) : St w0 w' g s v now (L.map bp) P1 I P2 :=
  h.turn hC hq rfl (All2.map_of (f := bp) (T := fun p m => MR w (Dt g w0.heap.size s v) m p.1) (h.l.mono fun _ _ k => k))
/-- Behind a Take. -/
theorem St.take (h : St w0 w g s v now L P1 I P2) (hC : Chg (Qp g w0.heap.size s) w w') {b : Nat} (hq : QA w' g w0.heap.size 50 now (L.eraseIdx b) s') (hs : s'.ownBlock = s.ownBlock) : St w0 w' g s' v now (L.eraseIdx b) (P1.eraseIdx b) I P2 :=
  (⟨h.q, h.own, h.vb, h.c, h.l, h.i⟩ : St w0 w g s v now L P1 I P2) |> fun h =>
    ⟨hq, own_chg h.own hC fun k hk hq => by
      obtain ⟨h1, h2, h3⟩ := h.vb k hk
      rcases hq with rfl | rfl | hq
      · exact h1 rfl
      · exact h2 rfl
      · exact h3 hq, fun k hk => by rw [hs]; exact h.vb k hk, h.c.then_ hC fun j hj hs => by have := h.foot hs; omega,
    (h.l.erase b).mono fun _ _ k => (k.chg hC fun j hj _ hq => by
      rcases hq with rfl | rfl | hq
      · exact hj.1 rfl
      · exact hj.2.1 rfl
      · exact hj.2.2.1 hq).mono fun j hj _ => ⟨hj.1, hj.2.1, by rw [hs]; exact hj.2.2.1, hj.2.2.2⟩,
    h.i.mono fun _ _ k => k.chg hC fun j hj _ hq => by have := h.foot hq; omega⟩
/-- The message that a Take gives. -/
theorem St.took (h : St w0 w g s v now L P1 I P2) (hC : Chg (Qp g w0.heap.size s) w w') (hs : s'.ownBlock = s.ownBlock) {b : Nat} (hb : b < L.length) (hb' : b < P1.length) : MR w' (Dt g w0.heap.size s' v) P1[b] L[b].1 :=
  ((h.l.get hb hb').chg hC fun j hj _ hq => by
      rcases hq with rfl | rfl | hq
      · exact hj.1 rfl
      · exact hj.2.1 rfl
      · exact hj.2.2.1 hq).mono fun j hj _ => ⟨hj.1, hj.2.1, by rw [hs]; exact hj.2.2.1, hj.2.2.2⟩
theorem St.lts (h : St w0 w g s v now L P1 I P2) : g < w.heap.size ∧ w0.heap.size < w.heap.size ∧ (∀ k, s.ownBlock = some k → k < w.heap.size) ∧ ∀ k, v.ownBlock = some k → k < w.heap.size :=
  ⟨h.q.blk.lt, h.q.ta.blk.lt, fun k hk => by
    obtain ⟨cur, hB⟩ := (h.q.own_at hk).2
    exact hB.lt, fun k hk => (h.own.lt k hk).2⟩
/-- Behind a Put that was let in. -/
theorem St.put (h : St w0 w g s v now L P1 I P2) {y : Ms} {u : Int} {m : Mg} (h4 : Chg NoB w w4) (hy : MR w4 (New w) m y) (hC : Chg (Qp g w0.heap.size s) w4 w') (hq : QA w' g w0.heap.size 50 now (L ++ [(y, u)]) s') (hs : ∀ k, s'.ownBlock = some k → s.ownBlock = some k ∨ w4.heap.size ≤ k) :
    St w0 w' g s' v now (L ++ [(y, u)]) (P1 ++ [m]) I P2 := by
  have k4 := h.st h4
  have hlt := h.lts
  have hlt4 := k4.lts
  have hmv : ∀ k, k < w4.heap.size → s.ownBlock ≠ some k → s'.ownBlock ≠ some k := fun k hk hn he => by
    rcases hs k he with h | h
    · exact hn h
    · omega
  refine ⟨hq, own_chg k4.own hC fun k hk hq => ?_, fun k hk => ?_, k4.c.then_ hC fun j hj hs => by have := k4.foot hs; omega, All2.push (k4.l.mono fun _ _ k => ?_) ?_, k4.i.mono fun _ _ k => k.chg hC fun j hj _ hq => by have := k4.foot hq; omega⟩
  · obtain ⟨h1, h2, h3⟩ := k4.vb k hk
    rcases hq with rfl | rfl | hq
    · exact h1 rfl
    · exact h2 rfl
    · exact h3 hq
  · obtain ⟨h1, h2, h3⟩ := k4.vb k hk
    exact ⟨h1, h2, hmv k (hlt4.2.2.2 k hk) h3⟩
  · exact (k.old.chg hC fun j hj _ hq => by
      rcases hq with rfl | rfl | hq
      · exact hj.1.1 rfl
      · exact hj.1.2.1 rfl
      · exact hj.1.2.2.1 hq).mono fun j hj _ => ⟨hj.1.1, hj.1.2.1, hmv j hj.2 hj.1.2.2.1, hj.1.2.2.2⟩
  · exact (hy.old.chg hC fun j hj _ hq => by
      have h1 : w.heap.size ≤ j := hj.1
      rcases hq with rfl | rfl | hq
      · omega
      · omega
      · have := hlt.2.2.1 j hq; omega).mono fun j hj _ => by
        have h1 : w.heap.size ≤ j := hj.1
        exact ⟨by omega, by omega, hmv j hj.2 fun he => by have := hlt.2.2.1 j he; omega, fun he => by have := hlt.2.2.2 j he; omega⟩
/-- Behind a Put that was refused. -/
theorem St.full (h : St w0 w g s v now L P1 I P2) (hC : Chg (Qp g w0.heap.size s) w w') (hq : QA w' g w0.heap.size 50 now' L s) : St w0 w' g s v now' L P1 I P2 := h.turn hC hq rfl h.l
/-- Behind an append to the row of messages. -/
theorem St.push (h : St w0 w g s v now L P1 I P2) {x : Ms} {m : Mg} (hx : MR w (fun k => k < w0.heap.size) m x) (hC : Chg (fun k => v.ownBlock = some k) w w') (ho : w'.ownsRow w0.heap.size 31 10 v' (I.length + 1) (fm I ++ (mc x).toList)) (hv : ∀ k, v'.ownBlock = some k → v.ownBlock = some k ∨ w.heap.size ≤ k) : St w0 w' g s v' now L P1 (I ++ [x]) (P2 ++ [m]) := by
  have hlt := h.lts
  have hge : ∀ k, v.ownBlock = some k → w0.heap.size < k := fun k hk => by
    have h1 := (h.own.lt k hk).1
    have h2 := (h.vb k hk).2.1
    omega
  refine ⟨h.q.chg_ hC (fun hk => (h.vb _ hk).1 rfl) (fun hk => (h.vb _ hk).2.1 rfl) fun k hk hv => (h.vb k hv).2.2 hk, by rw [fm_append, fm_one, List.length_append]; exact ho, fun k hk => ?_, h.c.then_ hC fun j hj hs => by have := hge j hs; omega, h.l.mono fun _ _ k => ?_, All2.push (h.i.mono fun _ _ k => ?_) ?_⟩
  · rcases hv k hk with hk | hk
    · exact h.vb k hk
    · exact ⟨by omega, by omega, fun he => by have := hlt.2.2.1 k he; omega⟩
  · exact (k.old.chg hC fun j hj _ hq => hj.1.2.2.2 hq).mono fun j hj _ => ⟨hj.1.1, hj.1.2.1, hj.1.2.2.1, fun he => by
      rcases hv j he with he | he
      · exact hj.1.2.2.2 he
      · have := hj.2; omega⟩
  · exact k.chg hC fun j hj _ hq => by have := hge j hq; omega
  · exact hx.chg hC fun j hj _ hq => by have := hge j hq; omega
/-- Behind a removal from the row of messages. -/
theorem St.drop (h : St w0 w g s v now L P1 I P2) {gv j : Nat} (hv : v.ownBlock = some gv) (hC : Chg (Only gv) w w') (hv' : v'.ownBlock = some gv) (ho : w'.ownsRow w0.heap.size 31 10 v' (I.eraseIdx j).length (fm (I.eraseIdx j))) : St w0 w' g s v' now L P1 (I.eraseIdx j) (P2.eraseIdx j) := by
  obtain ⟨h1, h2, h3⟩ := h.vb gv hv
  have h4 := (h.own.lt gv hv).1
  refine ⟨h.q.chg_ hC (fun hk => h1 hk.symm) (fun hk => h2 hk.symm) fun k hk hs => h3 (by unfold Only at hs; rw [← hs]; exact hk), ho, fun k hk => h.vb k (by rw [hv, ← hv', hk]), h.c.then_ hC fun j hj hs => by unfold Only at hs; omega, h.l.mono fun _ _ k => (k.chg hC fun j hj _ hq => hj.2.2.2 (by unfold Only at hq; rw [hq]; exact hv)).mono fun j hj _ => ⟨hj.1, hj.2.1, hj.2.2.1, by rw [hv', ← hv]; exact hj.2.2.2⟩, (h.i.erase j).mono fun _ _ k => k.chg hC fun j hj _ hq => by unfold Only at hq; omega⟩
theorem own_form {base n k : Nat} {t : TypeId} {xs : List Value} (h : w.ownsRow base t k v n xs) : ∃ p cap, v = .slice p n cap ∧ n ≤ cap ∧ cap ≤ maxLen ∧ (0 < n → ∃ gv, p = some ⟨gv, 0, none⟩ ∧ gv < w.heap.size ∧ base ≤ gv ∧ ∀ j, j < n * k → w.cell? ⟨gv, j, none⟩ = xs[j]? ∧ w.frozen? ⟨gv, j, none⟩ = false) := by
  obtain ⟨hxl, h2⟩ := h
  rcases h2 with ⟨rfl, h0⟩ | ⟨gv, cap, cur, rfl, hb, hB, hn, hc, hs, ht⟩
  · exact ⟨none, 0, by rw [h0], by omega, Nat.zero_le _, fun h => by omega⟩
  · refine ⟨_, cap, rfl, hn, hc, fun _ => ⟨gv, rfl, Blk.lt (w := w) hB, hb, fun j hj => ⟨?_, Blk.frozen (w := w) hB _⟩⟩⟩
    rw [Blk.cell (w := w) hB, ← Array.getElem?_toList, ← ht, List.getElem?_take_of_lt hj]
end
/-- Where one of the first n stands that is alike: there, or -1. -/
def AtR (P : List Mg) (u : Mg) (n : Nat) (a : Int) : Prop := (a = -1 ∧ ∀ j (h : j < P.length), j < n → ¬ sameM P[j] u) ∨ ∃ j, ∃ h : j < P.length, j < n ∧ a = (j : Int) ∧ sameM P[j] u
theorem AtR.zero (P : List Mg) (u : Mg) : AtR P u 0 (-1) := .inl ⟨rfl, fun j _ h => by omega⟩
theorem AtR.no {P : List Mg} {u : Mg} {n : Nat} {a : Int} (h : AtR P u n a) (hn : n < P.length) (hs : ¬ sameM P[n] u) : AtR P u (n + 1) a := by
  rcases h with ⟨h1, h2⟩ | ⟨j, hj, h1, h2, h3⟩
  · exact .inl ⟨h1, fun j hj hjn => by
      rcases Nat.lt_succ_iff_lt_or_eq.1 hjn with h | rfl
      · exact h2 j hj h
      · exact hs⟩
  · exact .inr ⟨j, hj, by omega, h2, h3⟩
theorem AtR.yes {P : List Mg} {u : Mg} {n : Nat} (hn : n < P.length) (hs : sameM P[n] u) : AtR P u (n + 1) n := .inr ⟨n, hn, by omega, rfl, hs⟩
theorem AtR.up {P : List Mg} {u : Mg} {n : Nat} {a : Int} (h : AtR P u n a) (ha : 0 ≤ a) : AtR P u (n + 1) a := by
  rcases h with ⟨h1, _⟩ | ⟨j, hj, h1, h2, h3⟩
  · omega
  · exact .inr ⟨j, hj, by omega, h2, h3⟩
theorem AtR.found {P : List Mg} {u : Mg} {a : Int} (h : AtR P u P.length a) {j : Nat} (hj : j < P.length) (hs : sameM P[j] u) : ∃ i, ∃ h : i < P.length, a = (i : Int) ∧ sameM P[i] u := by
  rcases h with ⟨_, h2⟩ | ⟨i, hi, _, h2, h3⟩
  · exact absurd hs (h2 j hj hj)
  · exact ⟨i, hi, h2, h3⟩
end Go.Proofs.Ytcefaohdikongaa

/- QueuePlays: the law's state, and how it stands behind each step. No statement is proved here. -/
import Derived.Test.YtcefaohdikongaaRefQB
namespace Go.Proofs.Ytcefaohdikongaa
open Go.RowKit Go.Proofs.YtcefaohdikongaaW.PrintLast

/-- What no part of the two queues lies in. -/
abbrev Dp (g r g2 : Nat) (s s2 : Value) : Nat → Prop := fun k => k ≠ g ∧ k ≠ r ∧ s.ownBlock ≠ some k ∧ s2.ownBlock ≠ some k ∧ k ≠ g2
structure Sp (w0 w : World) (g g2 : Nat) (mo : Int) (s s2 : Value) (now ref : Int) (L L2 : List (Ms × Int)) (P1 P2 : List Mg) : Prop where
  q : QA w g w0.heap.size mo now L s
  r : RA w g2 mo ref L2 s2
  ga : g2 ≠ g ∧ w0.heap.size < g2 ∧ s.ownBlock ≠ some g2
  sa : ∀ k, s2.ownBlock = some k → k ≠ g ∧ w0.heap.size < k ∧ s.ownBlock ≠ some k
  c : Chg NoB w0 w
  l : All2 (fun p m => MR w (Dp g w0.heap.size g2 s s2) m p.1) L P1
  i : All2 (fun p m => MR w (fun k => k < w0.heap.size) m p.1) L2 P2
section
variable {w0 w w' w4 : World} {g g2 : Nat} {mo : Int} {s s' s2 s2' : Value} {now now' ref ref' : Int} {L L' L2 L2' : List (Ms × Int)} {P1 P1' P2 P2' : List Mg}
theorem Sp.st (h : Sp w0 w g g2 mo s s2 now ref L L2 P1 P2) (hC : Chg NoB w w') : Sp w0 w' g g2 mo s s2 now ref L L2 P1 P2 :=
  ⟨h.q.chg hC, h.r.st hC, h.ga, h.sa, h.c.trans hC, h.l.mono fun _ _ k => k.st hC, h.i.mono fun _ _ k => k.st hC⟩
theorem Sp.foot (h : Sp w0 w g g2 mo s s2 now ref L L2 P1 P2) {k : Nat} (hk : Qp g w0.heap.size s k) : w0.heap.size ≤ k := by
  have := h.q.rg
  rcases hk with rfl | rfl | hk
  · omega
  · omega
  · have := (h.q.own_at hk).1; omega
theorem Sp.lts (h : Sp w0 w g g2 mo s s2 now ref L L2 P1 P2) : g < w.heap.size ∧ w0.heap.size < w.heap.size ∧ (∀ k, s.ownBlock = some k → k < w.heap.size) ∧ g2 < w.heap.size ∧ ∀ k, s2.ownBlock = some k → k < w.heap.size :=
  ⟨h.q.blk.lt, h.q.ta.blk.lt, fun k hk => by
    obtain ⟨cur, hB⟩ := (h.q.own_at hk).2
    exact hB.lt, h.r.blk.lt, fun k hk => (h.r.own.lt k hk).2⟩
theorem Dp.off {r k : Nat} (hj : Dp g r g2 s s2 k) : ¬ Qp g r s k := fun hq => by
  rcases hq with rfl | rfl | hq
  · exact hj.1 rfl
  · exact hj.2.1 rfl
  · exact hj.2.2.1 hq
theorem Sp.ref_off (h : Sp w0 w g g2 mo s s2 now ref L L2 P1 P2) : ¬ Qp g w0.heap.size s g2 ∧ ∀ k, s2.ownBlock = some k → ¬ Qp g w0.heap.size s k := by
  obtain ⟨h1, h2, h3⟩ := h.ga
  refine ⟨fun hq => ?_, fun k hk hq => ?_⟩
  · rcases hq with hq | hq | hq
    · exact h1 hq
    · omega
    · exact h3 hq
  · obtain ⟨k1, k2, k3⟩ := h.sa k hk
    rcases hq with hq | hq | hq
    · exact k1 hq
    · omega
    · exact k3 hq
/-- Behind a turn of the program's queue that puts nothing. -/
theorem Sp.turn (h : Sp w0 w g g2 mo s s2 now ref L L2 P1 P2) (hC : Chg (Qp g w0.heap.size s) w w') (hq : QA w' g w0.heap.size mo now' L' s') (hs : s'.ownBlock = s.ownBlock) (hl : All2 (fun p m => MR w (Dp g w0.heap.size g2 s s2) m p.1) L' P1') : Sp w0 w' g g2 mo s' s2 now' ref L' L2 P1' P2 :=
  ⟨hq, h.r.chg_ hC h.ref_off.1 h.ref_off.2, by rw [hs]; exact h.ga, fun k hk => by rw [hs]; exact h.sa k hk, h.c.then_ hC fun j hj hs => by have := h.foot hs; omega,
    hl.mono fun _ _ k => (k.chg hC fun j hj _ hq => hj.off hq).mono fun j hj _ => ⟨hj.1, hj.2.1, by rw [hs]; exact hj.2.2.1, hj.2.2.2⟩,
    h.i.mono fun _ _ k => k.chg hC fun j hj _ hq => by have := h.foot hq; omega⟩
theorem Sp.tick (h : Sp w0 w g g2 mo s s2 now ref L L2 P1 P2) (hC : Chg (Qp g w0.heap.size s) w w') (hq : QA w' g w0.heap.size mo now (L.map bp) s) : Sp w0 w' g g2 mo s s2 now ref (L.map bp) L2 P1 P2 :=
  h.turn hC hq rfl (All2.map_of (f := bp) (T := fun p m => MR w (Dp g w0.heap.size g2 s s2) m p.1) (h.l.mono fun _ _ k => k))
theorem Sp.take (h : Sp w0 w g g2 mo s s2 now ref L L2 P1 P2) (hC : Chg (Qp g w0.heap.size s) w w') {b : Nat} (hq : QA w' g w0.heap.size mo now (L.eraseIdx b) s') (hs : s'.ownBlock = s.ownBlock) : Sp w0 w' g g2 mo s' s2 now ref (L.eraseIdx b) L2 (P1.eraseIdx b) P2 := h.turn hC hq hs (h.l.erase b)
theorem Sp.took (h : Sp w0 w g g2 mo s s2 now ref L L2 P1 P2) (hC : Chg (Qp g w0.heap.size s) w w') (hs : s'.ownBlock = s.ownBlock) {b : Nat} (hb : b < L.length) (hb' : b < P1.length) : MR w' (Dp g w0.heap.size g2 s' s2) P1[b] L[b].1 :=
  ((h.l.get hb hb').chg hC fun j hj _ hq => hj.off hq).mono fun j hj _ => ⟨hj.1, hj.2.1, by rw [hs]; exact hj.2.2.1, hj.2.2.2⟩
/-- Behind a Put of the program's queue that was let in. -/
theorem Sp.put (h : Sp w0 w g g2 mo s s2 now ref L L2 P1 P2) {y : Ms} {u : Int} {m : Mg} (h4 : Chg NoB w w4) (hy : MR w4 (New w) m y) (hC : Chg (Qp g w0.heap.size s) w4 w') (hq : QA w' g w0.heap.size mo now (L ++ [(y, u)]) s') (hs : ∀ k, s'.ownBlock = some k → s.ownBlock = some k ∨ w4.heap.size ≤ k) :
    Sp w0 w' g g2 mo s' s2 now ref (L ++ [(y, u)]) L2 (P1 ++ [m]) P2 := by
  have k4 := h.st h4
  have hlt := h.lts
  have hlt4 := k4.lts
  have hmv : ∀ k, k < w4.heap.size → s.ownBlock ≠ some k → s'.ownBlock ≠ some k := fun k hk hn he => by
    rcases hs k he with h | h
    · exact hn h
    · omega
  refine ⟨hq, k4.r.chg_ hC k4.ref_off.1 k4.ref_off.2, ⟨h.ga.1, h.ga.2.1, hmv g2 hlt4.2.2.2.1 h.ga.2.2⟩, fun k hk => ?_, k4.c.then_ hC fun j hj hs => by have := k4.foot hs; omega, All2.push (k4.l.mono fun _ _ k => ?_) ?_, k4.i.mono fun _ _ k => k.chg hC fun j hj _ hq => by have := k4.foot hq; omega⟩
  · obtain ⟨h1, h2, h3⟩ := k4.sa k hk
    exact ⟨h1, h2, hmv k (hlt4.2.2.2.2 k hk) h3⟩
  · exact (k.old.chg hC fun j hj _ hq => hj.1.off hq).mono fun j hj _ => ⟨hj.1.1, hj.1.2.1, hmv j hj.2 hj.1.2.2.1, hj.1.2.2.2⟩
  · exact (hy.old.chg hC fun j hj _ hq => by
      have h1 : w.heap.size ≤ j := hj.1
      rcases hq with rfl | rfl | hq
      · omega
      · omega
      · have := hlt.2.2.1 j hq; omega).mono fun j hj _ => by
        have h1 : w.heap.size ≤ j := hj.1
        exact ⟨by omega, by omega, hmv j hj.2 fun he => by have := hlt.2.2.1 j he; omega, fun he => by have := hlt.2.2.2.2 j he; omega, by omega⟩
/-- Behind a turn of the reference's queue. -/
theorem Sp.rturn (h : Sp w0 w g g2 mo s s2 now ref L L2 P1 P2) (hC : Chg (Only g2) w w') (hr : RA w' g2 mo ref' L2' s2') (hf : ∀ k, s2'.ownBlock = some k → s2.ownBlock = some k ∨ w.heap.size ≤ k) (hi : All2 (fun p m => MR w (fun k => k < w0.heap.size) m p.1) L2' P2') : Sp w0 w' g g2 mo s s2' now ref' L L2' P1 P2' := by
  have hlt := h.lts
  refine ⟨h.q.chg_ hC (fun e => h.ga.1 e.symm) (fun e => by have := h.ga.2.1; unfold Only at e; omega) fun k hk e => h.ga.2.2 (by unfold Only at e; rw [← e]; exact hk), hr, h.ga, fun k hk => ?_, h.c.then_ hC fun j hj hs => by unfold Only at hs; have := h.ga.2.1; omega, h.l.mono fun _ _ k => ?_, hi.mono fun _ _ k => k.chg hC fun j hj _ hq => by unfold Only at hq; have := h.ga.2.1; omega⟩
  · rcases hf k hk with h1 | h1
    · exact h.sa k h1
    · exact ⟨by omega, by omega, fun e => by have := hlt.2.2.1 k e; omega⟩
  · exact (k.old.chg hC fun j hj _ hq => hj.1.2.2.2.2 hq).mono fun j hj _ => ⟨hj.1.1, hj.1.2.1, hj.1.2.2.1, fun e => by
      rcases hf j e with h1 | h1
      · exact hj.1.2.2.2.1 h1
      · have := hj.2; omega, hj.1.2.2.2.2⟩
end
/-- The same weights. -/
def Wq (L L2 : List (Ms × Int)) : Prop := L.map (·.2) = L2.map (·.2)
theorem Wq.length {L L2 : List (Ms × Int)} (h : Wq L L2) : L2.length = L.length := by
  have := congrArg List.length h
  simpa using this.symm
theorem Wq.wts {L L2 : List (Ms × Int)} (h : Wq L L2) (j : Nat) : wt L j = wt L2 j := by
  have key : ∀ l : List (Ms × Int), wt l j = (l.map (·.2)).getD j 0 := fun l => by
    unfold wt
    rw [List.getD_eq_getElem?_getD, List.getD_eq_getElem?_getD, List.getElem?_map]
    cases l[j]? <;> rfl
  rw [key, key, h]
theorem Wq.tick {L L2 : List (Ms × Int)} (h : Wq L L2) : Wq (L.map bp) (L2.map bp) := by
  unfold Wq at *
  have key : ∀ l : List (Ms × Int), (l.map bp).map (·.2) = (l.map (·.2)).map (· + 1) := fun l => by rw [List.map_map, List.map_map]; rfl
  rw [key, key, h]
theorem Wq.put {L L2 : List (Ms × Int)} (h : Wq L L2) (y x : Ms) (u : Int) : Wq (L ++ [(y, u)]) (L2 ++ [(x, u)]) := by
  unfold Wq at *
  rw [List.map_append, List.map_append, h]
  rfl
theorem map_erase {α β : Type} (f : α → β) : ∀ (l : List α) (b : Nat), (l.eraseIdx b).map f = (l.map f).eraseIdx b
  | [], _ => rfl
  | _ :: _, 0 => rfl
  | x :: l, b + 1 => by simp [map_erase f l b]
theorem Wq.erase {L L2 : List (Ms × Int)} (h : Wq L L2) (b : Nat) : Wq (L.eraseIdx b) (L2.eraseIdx b) := by
  unfold Wq at *
  rw [map_erase, map_erase, h]
/-- The one that is taken is the same. -/
theorem Wq.same {L L2 : List (Ms × Int)} (h : Wq L L2) {b c : Nat} (hb : Bst L L.length b) (hc : Bst L2 L2.length c) (hbl : b < L.length) (hcl : c < L2.length) : c = b := by
  have hl := h.length
  rcases Nat.lt_trichotomy c b with h1 | h1 | h1
  · have k1 := hb.lt c h1
    have k2 := hc.le b (by omega)
    rw [h.wts, h.wts] at k1
    omega
  · exact h1
  · have k1 := hc.lt b h1
    have k2 := hb.le c (by omega)
    rw [h.wts, h.wts] at k2
    omega
end Go.Proofs.Ytcefaohdikongaa

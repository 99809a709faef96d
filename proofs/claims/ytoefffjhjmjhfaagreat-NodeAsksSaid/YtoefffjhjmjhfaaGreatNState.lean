/- A node's state between calls: empty store, no operations, messages that wait, messages sent. No statement is proved here. -/
import Derived.Test.YtoefffjhjmjhfaaGreatIdle
import Derived.Test.YtoefffjhjmjhfaaGreatAll2
namespace Go.Proofs.YtoefffjhjmjhfaaGreat
open Go.RowKit Go.Proofs.YtoefffjhjmjhfaaGreatW.PrintLast
attribute [local go_sem] max2_mx min2_mn max_two_ min_two_
set_option maxRecDepth 100000

/-- Where messages' own memory lies. -/
abbrev Dn (n : Nat) (s out : Value) : Nat → Prop := fun k => n < k ∧ s.ownBlock ≠ some k ∧ out.ownBlock ≠ some k
structure NS (w : World) (p : Pl) (c : Cg) (id_ : Int) (m : Nat) (ticks sent now taken : Int) (L : List (Ms × Int)) (P : List Mg) (s out : Value) (I : List Ms) (Q : List Mg) : Prop where
  nd : ND w p c id_ m ticks sent now taken L s out I.length (fm I)
  l : All2 (fun x y => MR w (Dn p.n s out) y x.1) L P
  i : All2 (fun x y => MR w (Dn p.n s out) y x) I Q
section
variable {w w' : World} {p : Pl} {c : Cg} {id_ : Int} {m : Nat} {ticks sent now taken : Int} {L : List (Ms × Int)} {P : List Mg} {s out : Value} {I : List Ms} {Q : List Mg}
theorem NS.out_lt (h : NS w p c id_ m ticks sent now taken L P s out I Q) {k : Nat} (hk : out.ownBlock = some k) : p.n < k := cbase h.nd.own hk
theorem SE.chg_ {S : Nat → Prop} {w w' : World} {st lg tb mp hs d : Nat} {most : Int} (h : SE w st lg tb mp hs d most) (hC : Chg S w w') (h1 : ¬ S st) (h2 : ¬ S lg) (h3 : ¬ S tb) (h4 : ¬ S mp) (h5 : ¬ S hs) (h6 : ¬ S d) : SE w' st lg tb mp hs d most :=
  ⟨h.blk.chg hC h1, h.log.chg hC h2, h.tab.chg hC h3, (hC.block mp (map_lt h.map) h4).trans h.map, h.hnt.chg hC h5, ⟨h.dsk.blk.chg hC h6, ⟨rfl, .inl ⟨rfl, rfl⟩⟩⟩⟩
theorem NS.st (h : NS w p c id_ m ticks sent now taken L P s out I Q) (hC : Chg NoB w w') : NS w' p c id_ m ticks sent now taken L P s out I Q :=
  ⟨{ h.nd with
      blk := h.nd.blk.st hC, se := h.nd.se.st hC, rg := h.nd.rg.st hC, vw := h.nd.vw.st hC, bk := h.nd.bk.chg hC id id, q := h.nd.q.chg_ hC id id fun _ _ => id, co := h.nd.co.st hC,
      cm := (hC.block _ (map_lt h.nd.cm) id).trans h.nd.cm, own := own_chg h.nd.own hC fun _ _ => id },
    h.l.mono fun _ _ k => k.st hC, h.i.mono fun _ _ k => k.st hC⟩
/-- The view has turned. -/
theorem NS.vw (h : NS w p c id_ m ticks sent now taken L P s out I Q) (hC : Chg (Vf p.b1 p.b2 p.b3) w w') (hv : VB w' p.v p.b1 p.b2 p.b3 m id_) : NS w' p c id_ m ticks sent now taken L P s out I Q := by
  obtain ⟨a1, a2, a3, a4, a5, a6, b0, b1, b2, b3, b4, b5, b6, b7, b8, b9⟩ := h.nd.up
  have hD : ∀ k, p.n < k → ¬ Vf p.b1 p.b2 p.b3 k := fun k hk => by unfold Vf; omega
  have no := fun k hk => hD k (h.out_lt hk)
  refine ⟨{ h.nd with
      blk := h.nd.blk.chg hC ?_, se := h.nd.se.chg_ hC ?_ ?_ ?_ ?_ ?_ ?_, rg := h.nd.rg.chg hC ?_, vw := hv, bk := h.nd.bk.chg hC ?_ ?_, q := h.nd.q.chg_ hC ?_ ?_ (fun k hk => hD k (h.nd.sn k hk)), co := h.nd.co.chg hC ?_,
      cm := (hC.block _ (map_lt h.nd.cm) ?_).trans h.nd.cm, own := own_chg h.nd.own hC no }, h.l.mono fun _ _ k => k.chg hC fun j hj _ => hD j hj.1, h.i.mono fun _ _ k => k.chg hC fun j hj _ => hD j hj.1⟩
  all_goals unfold Vf; omega
/-- The bucket has turned. -/
theorem NS.bk {now' taken' : Int} (h : NS w p c id_ m ticks sent now taken L P s out I Q) (hC : Chg (Two p.bg p.bh) w w') (hb : BA w' p.bg p.bh c.rate now' c.burst taken') : NS w' p c id_ m ticks sent now' taken' L P s out I Q := by
  obtain ⟨a1, a2, a3, a4, a5, a6, b0, b1, b2, b3, b4, b5, b6, b7, b8, b9⟩ := h.nd.up
  have hD : ∀ k, p.n < k → ¬ Two p.bg p.bh k := fun k hk => by unfold Two; omega
  refine ⟨{ h.nd with
      blk := h.nd.blk.chg hC ?_, se := h.nd.se.chg_ hC ?_ ?_ ?_ ?_ ?_ ?_, rg := h.nd.rg.chg hC ?_, vw := h.nd.vw.chg_ hC ?_ ?_ ?_ ?_, bk := hb, q := h.nd.q.chg_ hC ?_ ?_ (fun k hk => hD k (h.nd.sn k hk)), co := h.nd.co.chg hC ?_,
      cm := (hC.block _ (map_lt h.nd.cm) ?_).trans h.nd.cm, own := own_chg h.nd.own hC fun k hk => hD k (h.out_lt hk) }, h.l.mono fun _ _ k => k.chg hC fun j hj _ => hD j hj.1, h.i.mono fun _ _ k => k.chg hC fun j hj _ => hD j hj.1⟩
  all_goals unfold Two; omega
/-- The queue has turned. -/
theorem ND.qu {outs : Nat} {fl_ : List Value} {L' : List (Ms × Int)} {s' : Value} (h : ND w p c id_ m ticks sent now taken L s out outs fl_) (hC : Chg (Qp p.qg p.qr s) w w') (hq : QA w' p.qg p.qr c.q 0 L' s') (h1 : ∀ k, s'.ownBlock = some k → p.n < k) (h2 : ∀ k, s'.ownBlock = some k → out.ownBlock ≠ some k) : ND w' p c id_ m ticks sent now taken L' s' out outs fl_ := by
  obtain ⟨a1, a2, a3, a4, a5, a6, b0, b1, b2, b3, b4, b5, b6, b7, b8, b9⟩ := h.up
  have ho : ∀ k, out.ownBlock = some k → ¬ Qp p.qg p.qr s k := fun k hk hq => by
    have := cbase h.own hk
    rcases hq with hq | hq | hq
    · omega
    · omega
    · exact h.so k hq hk
  have hl : ∀ k, k ≠ p.qg → k ≠ p.qr → k ≤ p.n → ¬ Qp p.qg p.qr s k := fun k h1 h2 h3 hq => by
    rcases hq with hq | hq | hq
    · exact h1 hq
    · exact h2 hq
    · have := h.sn k hq; omega
  exact { h with
      blk := h.blk.chg hC (hl _ (by omega) (by omega) (by omega)), se := h.se.chg_ hC (hl _ (by omega) (by omega) (by omega)) (hl _ (by omega) (by omega) (by omega)) (hl _ (by omega) (by omega) (by omega)) (hl _ (by omega) (by omega) (by omega)) (hl _ (by omega) (by omega) (by omega)) (hl _ (by omega) (by omega) (by omega)),
      rg := h.rg.chg hC (hl _ (by omega) (by omega) (by omega)), vw := h.vw.chg_ hC (hl _ (by omega) (by omega) (by omega)) (hl _ (by omega) (by omega) (by omega)) (hl _ (by omega) (by omega) (by omega)) (hl _ (by omega) (by omega) (by omega)),
      bk := h.bk.chg hC (hl _ (by omega) (by omega) (by omega)) (hl _ (by omega) (by omega) (by omega)), q := hq, co := h.co.chg hC (hl _ (by omega) (by omega) (by omega)), cm := (hC.block _ (map_lt h.cm) (hl _ (by omega) (by omega) (by omega))).trans h.cm,
      own := own_chg h.own hC ho, sn := h1, so := h2 }
/-- What the queue may turn lies above its parts. -/
abbrev Nf (p : Pl) : Nat → Prop := fun k => p.rg < k
theorem ND.foot {outs : Nat} {fl_ : List Value} (h : ND w p c id_ m ticks sent now taken L s out outs fl_) (hC : Chg (Qp p.qg p.qr s) w w') : Chg (Nf p) w w' := hC.mono fun k _ hk => by
  obtain ⟨a1, a2, a3, a4, a5, a6, b0, b1, b2, b3, b4, b5, b6, b7, b8, b9⟩ := h.up
  unfold Nf
  rcases hk with hk | hk | hk
  · omega
  · omega
  · have := h.sn k hk; omega
theorem ND.footV {outs : Nat} {fl_ : List Value} (h : ND w p c id_ m ticks sent now taken L s out outs fl_) (hC : Chg (Vf p.b1 p.b2 p.b3) w w') : Chg (Nf p) w w' := hC.mono fun k _ hk => by
  obtain ⟨a1, a2, a3, a4, a5, a6, b0, b1, b2, b3, b4, b5, b6, b7, b8, b9⟩ := h.up
  unfold Nf
  rcases hk with hk | hk | hk <;> omega
theorem ND.footB {outs : Nat} {fl_ : List Value} (h : ND w p c id_ m ticks sent now taken L s out outs fl_) (hC : Chg (Two p.bg p.bh) w w') : Chg (Nf p) w w' := hC.mono fun k _ hk => by
  obtain ⟨a1, a2, a3, a4, a5, a6, b0, b1, b2, b3, b4, b5, b6, b7, b8, b9⟩ := h.up
  unfold Nf
  rcases hk with hk | hk <;> omega
theorem ND.footN {outs : Nat} {fl_ : List Value} (h : ND w p c id_ m ticks sent now taken L s out outs fl_) (hC : Chg (Only p.n) w w') : Chg (Nf p) w w' := hC.mono fun k _ hk => by
  obtain ⟨a1, a2, a3, a4, a5, a6, b0, b1, b2, b3, b4, b5, b6, b7, b8, b9⟩ := h.up
  unfold Nf
  unfold Only at hk
  omega
/-- A message more waits. -/
theorem NS.put {w4 : World} {y : Ms} {u : Int} {s' : Value} {mg : Mg} (h : NS w p c id_ m ticks sent now taken L P s out I Q) (h4 : Chg NoB w w4) (hy : MR w4 (New w) mg y) (hC : Chg (Qp p.qg p.qr s) w4 w') (hq : QA w' p.qg p.qr c.q 0 (L ++ [(y, u)]) s')
    (hs : ∀ k, s'.ownBlock = some k → s.ownBlock = some k ∨ w4.heap.size ≤ k) : NS w' p c id_ m ticks sent now taken (L ++ [(y, u)]) (P ++ [mg]) s' out I Q := by
  have hn4 := (h.st h4).nd.blk.lt
  have hn := h.nd.blk.lt
  have ho : ∀ k, out.ownBlock = some k → k < w.heap.size := fun k hk => (h.nd.own.lt k hk).2
  have hq0 : ∀ k, s.ownBlock = some k → k < w.heap.size := fun k hk => (h.nd.q.own_at hk).2.elim fun _ hB => hB.lt
  have h5 := h4.size
  obtain ⟨a1, a2, a3, a4, a5, a6, b0, b1, b2, b3, b4, b5, b6, b7, b8, b9⟩ := h.nd.up
  have off : ∀ k, p.n < k → s.ownBlock ≠ some k → ¬ Qp p.qg p.qr s k := fun k hk h1 hq => by
    rcases hq with hq | hq | hq
    · omega
    · omega
    · exact h1 hq
  refine ⟨(h.st h4).nd.qu hC hq (fun k hk => ?_) (fun k hk hk' => ?_), ?_, ?_⟩
  · rcases hs k hk with h6 | h6
    · exact h.nd.sn k h6
    · omega
  · rcases hs k hk with h6 | h6
    · exact h.nd.so k h6 hk'
    · have := ho k hk'; omega
  · refine All2.push ((h.st h4).l.mono fun x y k => ?_) ?_
    · refine (k.old.chg hC fun j hj _ => off j hj.1.1 hj.1.2.1).mono fun j hj _ => ⟨hj.1.1, fun hk => ?_, hj.1.2.2⟩
      rcases hs j hk with h6 | h6
      · exact hj.1.2.1 h6
      · have := hj.2; omega
    · refine (hy.old.chg hC fun j hj _ => off j (by have := hj.1; omega) fun hk => by have := hq0 j hk; have := hj.1; omega).mono fun j hj _ => ⟨by have := hj.1; omega, fun hk => ?_, fun hk => by have := ho j hk; have := hj.1; omega⟩
      rcases hs j hk with h6 | h6
      · have := hq0 j h6; have := hj.1; omega
      · have := hj.2; omega
  · refine (h.st h4).i.mono fun x y k => ?_
    refine (k.old.chg hC fun j hj _ => off j hj.1.1 hj.1.2.1).mono fun j hj _ => ⟨hj.1.1, fun hk => ?_, hj.1.2.2⟩
    rcases hs j hk with h6 | h6
    · exact hj.1.2.1 h6
    · have := hj.2; omega
end
end Go.Proofs.YtoefffjhjmjhfaaGreat

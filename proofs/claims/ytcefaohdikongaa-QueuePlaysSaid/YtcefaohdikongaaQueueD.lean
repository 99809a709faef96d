/- Contracts of package queue: Take. No statement is proved here. -/
import Derived.Test.YtcefaohdikongaaQueueC
namespace Go.Proofs.Ytcefaohdikongaa
open Go.RowKit Go.Proofs.YtcefaohdikongaaW.PrintLast

theorem back_ms2 {fn : Func} {p u : Tmp} (h : fn.results = #[.cell p 31, .tmp u]) {R : Ending → World → Prop} {a : Act} {w : World} {b : Nat} (x : Ms) (v : Value) (hp : a.tmps.getD p undef = .pointer (some ⟨b, 0, none⟩)) (hu : a.tmps.getD u undef = v) (hB : Blk w b 31 (mc x)) (hd : a.defers = [])
    (hR : R (.returned (.tuple #[msv x, v])) w) : bodyPost Try.prog fn R .ret a w := by
  refine bodyPost_ret ?_ hd hR
  rw [results_cell_tmp h, hp, hu]
  have hl := run_loadVar_row (P := Try.prog) w b 31 31 (mc x) (0, 0) _ hB Try.underlying31 rfl (by kernel_rfl)
  simp [asAddr, hl]
def wt (L : List (Ms × Int)) (j : Nat) : Int := (L.getD j (msz, 0)).2
theorem wt_at (L : List (Ms × Int)) {j : Nat} (h : j < L.length) : wt L j = L[j].2 := by simp [wt, h]
/-- The first of the greatest among the first k. -/
structure Bst (L : List (Ms × Int)) (k c : Nat) : Prop where
  le : ∀ j, j < k → wt L j ≤ wt L c
  lt : ∀ j, j < c → wt L j < wt L c
  at0 : k = 0 → c = 0
theorem Bst.stay {L : List (Ms × Int)} {k c : Nat} (h : Bst L k c) (hk : wt L k ≤ wt L c) : Bst L (k + 1) c :=
  ⟨fun j hj => by rcases Nat.lt_succ_iff_lt_or_eq.1 hj with h1 | rfl; exact h.le j h1; exact hk, h.lt, fun h0 => by omega⟩
theorem Bst.move {L : List (Ms × Int)} {k c : Nat} (h : Bst L k c) (hk : wt L c < wt L k) : Bst L (k + 1) k :=
  ⟨fun j hj => by rcases Nat.lt_succ_iff_lt_or_eq.1 hj with h1 | rfl; exact Int.le_trans (h.le j h1) (Int.le_of_lt hk); exact Int.le_refl _, fun j hj => Int.lt_of_le_of_lt (h.le j hj) hk, fun h0 => by omega⟩
theorem take_empty {w : World} {g r : Nat} {most now : Int} {s : Value} (q : QA w g r most now [] s) :
    Calls Try.prog 13 #[.pointer (some ⟨g, 0, none⟩)] w fun e w' => e = .returned (.tuple #[msv msz, .bool false]) ∧ QA w' g r most now [] s ∧ Kp r w w' := by
  have HQ := Lib.hid q
  clear q
  go_enter Try.func13, Try.ntmps13
  go_wp2_with fail
  have HQ2 := Lib.hid (HQ.out.chg ((Chg.refl NoB w).alloc (Obj.cells (mc msz) 31)))
  have HB := Lib.hid (Blk.new w 31 (mc msz))
  have HC := Lib.hid ((Chg.refl NoB w).alloc (Obj.cells (mc msz) 31))
  generalize w.alloc (Obj.cells _ 31) = W at *
  refine (len_any HQ2.out).mono ?_
  rintro e w1 ⟨rfl, rfl⟩
  obtain ⟨c0, c1, c2, c3, c4, c5, c6, c7, c8, c9⟩ := ten HB.out
  obtain ⟨f0, f1, f2, f3, f4, f5, f6, f7, f8, f9, f10⟩ := ten_frozen HB.out
  go_wp2_with fail
  have hz := ten_chg HC.out (.inr (Nat.le_refl _)) (.int .i64 0) (.int .i64 0) (.int .i64 0) (.int .i64 0) (.int .i64 0) (.string ⟨#[]⟩) (.int .i64 0) nil_ nil_ nil_
  exact back_ms2 rfl msz (.bool false) rfl rfl (ten_set HB.out _ _ _ _ _ _ _ _ _ _) rfl ⟨rfl, HQ.out.chg hz, Kp.of_no hz⟩
theorem QA.chg_ {S : Nat → Prop} {w w' : World} {g r : Nat} {most now : Int} {L : List (Ms × Int)} {s : Value} (q : QA w g r most now L s) (h : Chg S w w') (hg : ¬ S g) (hr : ¬ S r) (hs : ∀ k, s.ownBlock = some k → ¬ S k) : QA w' g r most now L s :=
  ⟨q.blk.chg h hg, q.ta.chg h hr, by
    obtain ⟨h1, hr⟩ := q.own
    refine ⟨h1, ?_⟩
    rcases hr with h0 | ⟨g', cap, cur, hv, hb, hB, hrest⟩
    · exact .inl h0
    · exact .inr ⟨g', cap, cur, hv, hb, Blk.chg (w := w) hB h (hs g' (by rw [hv]; rfl)), hrest⟩, q.rg, q.one⟩
theorem Kp.fresh {r b : Nat} {w w1 w2 : World} (h : Kp r w w1) (k : Chg (Only b) w1 w2) (hb : w.heap.size ≤ b) : Kp r w w2 :=
  ⟨h.chg.then_ k (fun j hj hs => by unfold Only at hs; omega), fun x t cs h1 h2 h3 hx => (h.kept x t cs h1 h2 h3 hx).chg k (by have := hx.lt; unfold Only; omega)⟩
theorem del_len (base b cap i : Nat) (L : List (Ms × Int)) (w : World) (hi : i < L.length) (hown : w.ownsRow base 67 11 (.slice (some ⟨b, 0, none⟩) L.length cap) L.length (fl L)) (h1 : ∀ u ∈ fl L, u.oneCell' = true) :
    Calls Try.prog 26 #[.slice (some ⟨b, 0, none⟩) L.length cap, .int .i64 i, .int .i64 ((i : Int) + 1)] w fun e w' => e = .returned (.slice (some ⟨b, 0, none⟩) (L.eraseIdx i).length cap) ∧ w'.ownsRow base 67 11 (.slice (some ⟨b, 0, none⟩) (L.eraseIdx i).length cap) (L.eraseIdx i).length (fl (L.eraseIdx i)) ∧ Chg (Only b) w w' := by
  obtain ⟨N, hN⟩ : ∃ N, L.length = N + 1 := ⟨L.length - 1, by omega⟩
  have hE : (L.eraseIdx i).length = N := by rw [List.length_eraseIdx_of_lt hi]; omega
  rw [hE]
  rw [hN] at hown ⊢
  exact del_any base b cap N i L w hN (by omega) hown h1
/-- What a Take that takes something comes to. -/
structure TookF (w : World) (g r : Nat) (most now : Int) (L : List (Ms × Int)) (s : Value) (e : Ending) (w' : World) : Prop where
  at_ : ∃ b, ∃ h : b < L.length, Bst L L.length b ∧ e = .returned (.tuple #[msv L[b].1, .bool true]) ∧ ∃ s', QA w' g r most now (L.eraseIdx b) s' ∧ s'.ownBlock = s.ownBlock
  chg : Chg (Qp g r s) w w'
/-- What a Take that takes something comes to. -/
structure Took (w : World) (g r : Nat) (most now : Int) (L : List (Ms × Int)) (e : Ending) (w' : World) : Prop where
  at_ : ∃ b, ∃ h : b < L.length, Bst L L.length b ∧ e = .returned (.tuple #[msv L[b].1, .bool true]) ∧ ∃ s', QA w' g r most now (L.eraseIdx b) s'
  kp : Kp r w w'
set_option maxRecDepth 100000 in
set_option maxHeartbeats 4000000 in
theorem take_ft {w : World} {g r : Nat} {most now : Int} {L : List (Ms × Int)} {s : Value} (q : QA w g r most now L s) (hL : 0 < L.length) (hl : L.length ≤ 1000) :
    Calls Try.prog 13 #[.pointer (some ⟨g, 0, none⟩)] w (TookF w g r most now L s) := by
  obtain ⟨g', cap, rfl, hcap⟩ := q.form1 hL
  have HQ0 := Lib.hid q
  have HL3 : Hid (r < g ∧ g < g' ∧ g' < w.heap.size) := Lib.hid ⟨q.rg, (q.own_at (k := g') rfl).1, by
    obtain ⟨cur, hB⟩ := (q.own_at (k := g') rfl).2
    exact hB.lt⟩
  clear q
  go_enter Try.func13, Try.ntmps13
  go_wp2_with fail
  have HQ := Lib.hid (HQ0.out.chg ((Chg.refl NoB w).alloc (Obj.cells (mc msz) 31)))
  have HB := Lib.hid (Blk.new w 31 (mc msz))
  have HC := Lib.hid ((Chg.refl NoB w).alloc (Obj.cells (mc msz) 31))
  clear HQ0
  generalize w.alloc (Obj.cells _ 31) = W at *
  refine (len_any HQ.out).mono ?_
  rintro e w1 ⟨rfl, rfl⟩
  have hne : ((L.length : Int) == 0) = false := beq_eq_false_iff_ne.2 (by omega)
  have c1 := HQ.out.blk.cell 1
  go_wp2_with fail
  clear c1
  go_loopw [4, 17] (fun b i wr => ∃ k c : Nat, k ≤ L.length ∧ c < L.length ∧ i = .int .i64 k ∧ b = .int .i64 c ∧ Bst L k c ∧ QA wr g r most now L (.slice (some ⟨g', 0, none⟩) L.length cap) ∧ Blk wr w.heap.size 31 (mc msz) ∧ Chg NoB w wr) (fun _ i _ => L.length - (intOf i).toNat)
  case atStart => exact ⟨0, 0, Nat.zero_le _, hL, rfl, rfl, ⟨fun j hj => by omega, fun j hj => by omega, fun _ => rfl⟩, HQ.out, HB.out, HC.out⟩
  case round =>
    clear HQ HB HC
    obtain ⟨k, c, hk, hc, rfl, rfl, hb, hq, hB, hC⟩ := hrel
    have HBst := Lib.hid hb
    have HQ := Lib.hid hq
    have HB := Lib.hid hB
    have HC := Lib.hid hC
    have c1 := hq.blk.cell 1
    clear hb hq hB hC
    by_cases hlt : k < L.length
    · have hk2 : decide ((k : Int) < (L.length : Int)) = true := by simpa using hlt
      have hk3 : (k : Int) < (L.length : Int) := by omega
      have hk4 : (0 : Int) ≤ (k : Int) := by omega
      have hc3 : (c : Int) < (L.length : Int) := by omega
      have hc4 : (0 : Int) ≤ (c : Int) := by omega
      have k0 := (HQ.out.wt hlt (j := 0) (by decide)).1
      have k1 := (HQ.out.wt hlt (j := 1) (by decide)).1
      have k2 := (HQ.out.wt hlt (j := 2) (by decide)).1
      have k3 := (HQ.out.wt hlt (j := 3) (by decide)).1
      have k4 := (HQ.out.wt hlt (j := 4) (by decide)).1
      have k5 := (HQ.out.wt hlt (j := 5) (by decide)).1
      have k6 := (HQ.out.wt hlt (j := 6) (by decide)).1
      have k7 := (HQ.out.wt hlt (j := 7) (by decide)).1
      have k8 := (HQ.out.wt hlt (j := 8) (by decide)).1
      have k9 := (HQ.out.wt hlt (j := 9) (by decide)).1
      have k10 := (HQ.out.wt hlt (j := 10) (by decide)).1
      have hwk := wt_at L hlt
      have hwc := wt_at L hc
      simp only [el, List.getElem?_cons_zero, List.getElem?_cons_succ] at k0 k1 k2 k3 k4 k5 k6 k7 k8 k9 k10
      rw [← hwk] at k10
      rw [Nat.add_zero] at k0
      have H1 := Lib.hid (fun u hu => HQ.out.one u (List.mem_flatMap.2 ⟨L[k], List.getElem_mem hlt, hu⟩) : ∀ u ∈ el L[k], u.oneCell' = true)
      generalize L[k] = x at *
      have o7 := fun (a : Addr) (w : World) => run_store Try.prog w a x.1.e .plain (H1.out _ (by simp))
      have o8 := fun (a : Addr) (w : World) => run_store Try.prog w a x.1.d .plain (H1.out _ (by simp))
      have o9 := fun (a : Addr) (w : World) => run_store Try.prog w a x.1.m .plain (H1.out _ (by simp))
      go_wp2_with fail
      have HQ2 := Lib.hid (HQ.out.chg ((Chg.refl NoB wr).alloc (Obj.cells (el x).toArray 67)))
      have HB2 := Lib.hid (HB.out.alloc (Obj.cells (el x).toArray 67))
      have HC2 := Lib.hid (HC.out.alloc (Obj.cells (el x).toArray 67))
      have hx : (wr.alloc (Obj.cells (el x).toArray 67)).cell? ⟨wr.heap.size, 10, none⟩ = some (.int .i64 x.2) := (Blk.new wr 67 (el x).toArray).cell 10
      generalize wr.alloc (Obj.cells _ 67) = W2 at *
      clear HQ HB HC c1 k0 k1 k2 k3 k4 k5 k6 k7 k8 k9 k10 o7 o8 o9 H1
      have c1 := HQ2.out.blk.cell 1
      have hy := (HQ2.out.wt hc (j := 10) (by decide)).1
      simp only [el, List.getElem?_cons_zero, List.getElem?_cons_succ] at hy
      rw [← hwc] at hy
      rw [← hwk] at hx
      clear hwc hwk
      by_cases hgt : wt L c < wt L k
      · have hg2 : decide (wt L c < wt L k) = true := by simpa using hgt
        have HBk := Lib.hid (HBst.out.move hgt)
        clear hgt
        go_quiet (fail)
        have HQ3 := Lib.hid (HQ2.out.chg ((Chg.refl NoB W2).drewN nq))
        have HB3 := Lib.hid (HB2.out.drewN nq)
        have HC3 := Lib.hid (HC2.out.drewN nq)
        clear HQ2 HB2 HC2 c1 hy hx
        generalize W2.drewN nq = W3 at *
        go_wp2_with fail
        go_roundw
        case rel => exact ⟨k + 1, k, by omega, hlt, by go_num, rfl, HBk.out, HQ3.out, HB3.out, HC3.out⟩
        case measure => simp [intOf]; omega
      · have hg2 : decide (wt L c < wt L k) = false := by simpa using hgt
        have HBk := Lib.hid (HBst.out.stay (by omega))
        clear hgt
        go_quiet (fail)
        have HQ3 := Lib.hid (HQ2.out.chg ((Chg.refl NoB W2).drewN nq))
        have HB3 := Lib.hid (HB2.out.drewN nq)
        have HC3 := Lib.hid (HC2.out.drewN nq)
        clear HQ2 HB2 HC2 c1 hy hx
        generalize W2.drewN nq = W3 at *
        go_wp2_with fail
        go_roundw
        case rel => exact ⟨k + 1, c, by omega, hc, by go_num, rfl, HBk.out, HQ3.out, HB3.out, HC3.out⟩
        case measure => simp [intOf]; omega
    · obtain rfl : k = L.length := by omega
      have hk2 : decide ((L.length : Int) < (L.length : Int)) = false := by simp
      have hc3 : (c : Int) < (L.length : Int) := by omega
      have hc4 : (0 : Int) ≤ (c : Int) := by omega
      have k0 := (HQ.out.wt hc (j := 0) (by decide)).1
      have k1 := (HQ.out.wt hc (j := 1) (by decide)).1
      have k2 := (HQ.out.wt hc (j := 2) (by decide)).1
      have k3 := (HQ.out.wt hc (j := 3) (by decide)).1
      have k4 := (HQ.out.wt hc (j := 4) (by decide)).1
      have k5 := (HQ.out.wt hc (j := 5) (by decide)).1
      have k6 := (HQ.out.wt hc (j := 6) (by decide)).1
      have k7 := (HQ.out.wt hc (j := 7) (by decide)).1
      have k8 := (HQ.out.wt hc (j := 8) (by decide)).1
      have k9 := (HQ.out.wt hc (j := 9) (by decide)).1
      simp only [el, List.getElem?_cons_zero, List.getElem?_cons_succ] at k0 k1 k2 k3 k4 k5 k6 k7 k8 k9
      rw [Nat.add_zero] at k0
      have H1 := Lib.hid (fun u hu => HQ.out.one u (List.mem_flatMap.2 ⟨L[c], List.getElem_mem hc, hu⟩) : ∀ u ∈ el L[c], u.oneCell' = true)
      generalize hxc : L[c] = x at k0 k1 k2 k3 k4 k5 k6 k7 k8 k9 H1
      have HX := Lib.hid hxc
      clear hxc
      have o7 := fun (a : Addr) (w : World) => run_store Try.prog w a x.1.e .plain (H1.out _ (by simp))
      have o8 := fun (a : Addr) (w : World) => run_store Try.prog w a x.1.d .plain (H1.out _ (by simp))
      have o9 := fun (a : Addr) (w : World) => run_store Try.prog w a x.1.m .plain (H1.out _ (by simp))
      have cA : ∀ o : Obj, (wr.alloc o).cell? ⟨g, 1, none⟩ = some (.slice (some ⟨g', 0, none⟩) L.length cap) := fun o => (HQ.out.blk.alloc o).cell 1
      have hgl := HQ.out.blk.lt
      go_wp2_with fail
      have HQ2 := Lib.hid (HQ.out.chg ((Chg.refl NoB wr).alloc (Obj.cells (mc x.1) 31)))
      have HB2 := Lib.hid (HB.out.alloc (Obj.cells (mc x.1) 31))
      have HM2 := Lib.hid (Blk.new wr 31 (mc x.1))
      have HC2 := Lib.hid (HC.out.alloc (Obj.cells (mc x.1) 31))
      have hbn : w.heap.size < wr.heap.size := HB.out.lt
      clear HQ HB HC c1 k0 k1 k2 k3 k4 k5 k6 k7 k8 k9 cA o7 o8 o9
      generalize wr.alloc (Obj.cells _ 31) = W2 at *
      refine (del_len (g + 1) g' cap c L W2 hc HQ2.out.own HQ2.out.one).mono ?_
      rintro e w5 ⟨rfl, hO, hC⟩
      obtain ⟨hl1, hl2, hl3⟩ := HL3.out
      have HO5 := Lib.hid hO
      have HD5 := Lib.hid hC
      have HG5 := Lib.hid (HQ2.out.blk.chg hC (by unfold Only; omega))
      have HB5 := Lib.hid (HB2.out.chg hC (by unfold Only; omega))
      have HM5 := Lib.hid (HM2.out.chg hC (by unfold Only; omega))
      have HT5 := Lib.hid (HQ2.out.ta.chg hC (by unfold Only; omega))
      clear hO hC
      have k1 := HG5.out.cell 1
      have f1 := HG5.out.frozen 1
      obtain ⟨d0, d1, d2, d3, d4, d5, d6, d7, d8, d9⟩ := ten HM5.out
      obtain ⟨x0, x1, x2, x3, x4, x5, x6, x7, x8, x9⟩ := ten HB5.out
      obtain ⟨g0, g1, g2, g3, g4, g5, g6, g7, g8, g9, g10⟩ := ten_frozen HB5.out
      have n1 : g ≠ w.heap.size := by omega
      have n2 : g ≠ wr.heap.size := by omega
      have n3 : w.heap.size ≠ g := by omega
      have n4 : wr.heap.size ≠ g := by omega
      have n5 : w.heap.size ≠ wr.heap.size := by omega
      have n6 : wr.heap.size ≠ w.heap.size := by omega
      have o7 := fun (a : Addr) (w : World) => run_store Try.prog w a x.1.e .plain (H1.out _ (by simp))
      have o8 := fun (a : Addr) (w : World) => run_store Try.prog w a x.1.d .plain (H1.out _ (by simp))
      have o9 := fun (a : Addr) (w : World) => run_store Try.prog w a x.1.m .plain (H1.out _ (by simp))
      go_wp2_with fail
      obtain ⟨cur2, hB2⟩ := (HQ2.out.own_at (k := g') rfl).2
      have hs : Chg (Only g) w5 (w5.setCell ⟨g, 1, none⟩ (.slice (some ⟨g', 0, none⟩) (L.eraseIdx c).length cap)) := (Chg.refl (Only g) w5).setOwn 1 _
      have q6 : QA (w5.setCell ⟨g, 1, none⟩ (.slice (some ⟨g', 0, none⟩) (L.eraseIdx c).length cap)) g r most now (L.eraseIdx c) (.slice (some ⟨g', 0, none⟩) (L.eraseIdx c).length cap) :=
        ⟨HG5.out.set_ 1 _, HT5.out.chg hs (by unfold Only; omega), own_apart HO5.out hs, hl1, fun u hu => by
          obtain ⟨y, hy, hu⟩ := List.mem_flatMap.1 hu
          exact HQ2.out.one u (List.mem_flatMap.2 ⟨y, List.mem_of_mem_eraseIdx hy, hu⟩)⟩
      have hk : Chg (Qp g r (.slice (some ⟨g', 0, none⟩) L.length cap)) w (w5.setCell ⟨g, 1, none⟩ (.slice (some ⟨g', 0, none⟩) (L.eraseIdx c).length cap)) := (HC2.out.of_no.trans (HD5.out.mono fun k _ hk => .inr (.inr (congrArg some hk.symm)))).trans (hs.mono fun k _ hk => .inl hk)
      have hz := ten_chg (Chg.refl (Only w.heap.size) (w5.setCell ⟨g, 1, none⟩ (.slice (some ⟨g', 0, none⟩) (L.eraseIdx c).length cap))) (b := w.heap.size) (.inl rfl) (.int .i64 x.1.a0) (.int .i64 x.1.a1) (.int .i64 x.1.a2) (.int .i64 x.1.a3) (.int .i64 x.1.a4) (.string x.1.key) (.int .i64 x.1.a6) x.1.e x.1.d x.1.m
      have q7 := q6.chg_ hz (by unfold Only; omega) (by unfold Only; omega) (fun k hk => by
        have : g' = k := Option.some.inj hk
        unfold Only
        omega)
      exact back_ms2 rfl x.1 (.bool true) rfl rfl (ten_set (x := msz) (HB5.out.far (p := ⟨g, 1, none⟩) n3 _) _ _ _ _ _ _ _ _ _ _) rfl ⟨⟨c, hc, HBst.out, by rw [HX.out], ⟨_, q7, rfl⟩⟩, hk.then_ hz fun j hj hs => by unfold Only at hs; omega⟩
theorem take_some {w : World} {g r : Nat} {most now : Int} {L : List (Ms × Int)} {s : Value} (q : QA w g r most now L s) (hL : 0 < L.length) (hl : L.length ≤ 1000) :
    Calls Try.prog 13 #[.pointer (some ⟨g, 0, none⟩)] w (Took w g r most now L) :=
  (take_ft q hL hl).mono fun _ _ ⟨⟨b, hb, hB, he, s', hq, _⟩, hC⟩ => ⟨⟨b, hb, hB, he, s', hq⟩, Kp.of_foot q hC⟩
end Go.Proofs.Ytcefaohdikongaa

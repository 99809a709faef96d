/- Contracts of the reference's queue: Tick, Take. No statement is proved here. -/
import Derived.Test.YtcefaohdikongaaRefQ
namespace Go.Proofs.Ytcefaohdikongaa
open Go.RowKit Go.Proofs.YtcefaohdikongaaW.PrintLast
attribute [local go_sem ↓] Go.wp_at_zero Go.wp_at_succ
attribute [local go_sem] max2_mx min2_mn max_two_ min_two_
section
variable {w w' : World} {g : Nat} {most ref ref' : Int} {L L' : List (Ms × Int)} {s s' : Value}
/-- An item's cells. -/
theorem RA.at_ {p : Option Addr} {cap : Nat} (q : RA w g most ref L (.slice p L.length cap)) {k : Nat} (hk : k < L.length) : ∃ gv, p = some ⟨gv, 0, none⟩ ∧ gv < w.heap.size ∧ g < gv ∧ ∀ j, j < 11 → w.cell? ⟨gv, k * 11 + j, none⟩ = (el L[k])[j]? ∧ w.frozen? ⟨gv, k * 11 + j, none⟩ = false := by
  obtain ⟨p', cap', he, _, _, hc⟩ := own_form q.own
  obtain ⟨gv, rfl, h1, h2, hc⟩ := hc (by omega)
  simp only [Value.slice.injEq] at he
  refine ⟨gv, he.1, h1, by omega, fun j hj => ?_⟩
  have := hc (k * 11 + j) (by omega)
  rw [fl_at L hk hj] at this
  exact this
theorem RA.bump {g' cap : Nat} (q : RA w g most ref L (.slice (some ⟨g', 0, none⟩) L.length cap)) (hg : g ≠ g') {k : Nat} (hk : k < L.length) (v : Int) :
    RA (w.setCell ⟨g', k * 11 + 10, none⟩ (.int .i64 v)) g most ref (L.set k (L[k].1, v)) (.slice (some ⟨g', 0, none⟩) L.length cap) := by
  refine ⟨q.blk.far hg _, ?_, ?_⟩
  · rw [List.length_set, fl_set L hk]
    exact own_set q.own _
  · rw [fl_set L hk]
    intro u hu
    rcases List.mem_or_eq_of_mem_set hu with hu | rfl
    · exact q.one u hu
    · rfl
set_option maxRecDepth 100000 in
set_option maxHeartbeats 2000000 in
theorem rtick_any (q : RA w g most ref L s) (hB : ∀ p ∈ L, 0 ≤ p.2 ∧ p.2 < 4611686018427387904) (hl : L.length ≤ 1000) :
    Calls Try.prog 21 #[.pointer (some ⟨g, 0, none⟩)] w fun e w' => e = .returned (.tuple #[]) ∧ RTurn w g most ref (L.map bp) w' := by
  obtain ⟨p, cap, rfl, _⟩ := own_form q.own
  have HQ := Lib.hid q
  obtain ⟨i9, hi9, z9, s9, y9⟩ := info_parts infI
  have c0 := q.blk.cell 0
  have hgl : g < w.heap.size := q.blk.lt
  clear q
  go_enter Try.func21, Try.ntmps21
  go_wp2_with (at_builtin; refine wpList_append_all rfl _ _ _ rfl w.heap.size 74 i9 _ 11 144 Try.underlying52 hi9 z9 s9 y9 rfl (by omega) _ 0 [] rfl ⟨rfl, .inl ⟨rfl, rfl⟩⟩ _ L.length (fl L) rfl (src_own HQ.out.own) HQ.out.one (by unfold maxLen; omega) (by omega) (Nat.le_refl _) ?_)
  intro v5 w5 hown5 hgrow5 hat5
  have hc5 := grown_nil hgrow5
  obtain ⟨p5, cap5, rfl, _⟩ := own_form hown5
  have HO5 := Lib.hid hown5
  have HG5 := Lib.hid (HQ.out.blk.st hc5)
  have k0 := HG5.out.cell 0
  have f0 := HG5.out.frozen 0
  clear c0 hown5 hgrow5 hat5
  go_upto_block 0 with fail
  have hs : Chg (Only g) w5 (w5.setCell ⟨g, 0, none⟩ (.slice p5 L.length cap5)) := (Chg.refl (Only g) w5).setOwn 0 _
  have HQ6 : Hid (RA (w5.setCell ⟨g, 0, none⟩ (.slice p5 L.length cap5)) g most ref L (.slice p5 L.length cap5)) := Lib.hid ⟨HG5.out.set_ 0 _, own_chg (own_low HO5.out (by omega)) hs fun k hk hs => by have := (HO5.out.lt k hk).1; unfold Only at hs; omega, HQ.out.one⟩
  have HC6 := Lib.hid (hc5.of_no.trans hs)
  have HF6 : Hid (∀ k, (Value.slice p5 L.length cap5).ownBlock = some k → w.heap.size ≤ k) := Lib.hid fun k hk => (HO5.out.lt k hk).1
  clear hs hc5 HO5 HG5 k0 f0 HQ
  generalize w5.setCell ⟨g, 0, none⟩ (Value.slice p5 L.length cap5) = W6 at *
  have k0 := HQ6.out.blk.cell 0
  go_wp2_with fail
  go_loopw [16] (fun i wr => ∃ k : Nat, k ≤ L.length ∧ i = .int .i64 k ∧ Hid (RA wr g most ref (tk L k) (.slice p5 L.length cap5)) ∧ Hid (Chg (Only g) w wr)) (fun i _ => L.length - (intOf i).toNat)
  case atStart => exact ⟨0, Nat.zero_le _, rfl, HQ6, HC6⟩
  case round =>
    clear HQ6 HC6 k0
    obtain ⟨k, hk, rfl, HQ, HC⟩ := hrel
    have c0 := HQ.out.blk.cell 0
    by_cases hlt : k < L.length
    · have hk2 : decide ((k : Int) < (L.length : Int)) = true := by simpa using hlt
      have hkt : k < (tk L k).length := by rw [tk_length L hk]; exact hlt
      have hq2 : RA wr g most ref (tk L k) (.slice p5 (tk L k).length cap5) := by rw [tk_length L hk]; exact HQ.out
      obtain ⟨gv, rfl, _, hgv, hcell⟩ := hq2.at_ hkt
      have hne : g ≠ gv := by omega
      have hw := hcell 10 (by decide)
      rw [tk_at L hlt] at hw
      have hc : wr.cell? ⟨gv, k * 11 + 10, none⟩ = some (.int .i64 L[k].2) := hw.1
      have hf := hw.2
      obtain ⟨hb0, hb1⟩ := hB L[k] (List.getElem_mem hlt)
      have HS : Hid (RA (wr.setCell ⟨gv, k * 11 + 10, none⟩ (.int .i64 (L[k].2 + 1))) g most ref (tk L (k + 1)) (.slice (some ⟨gv, 0, none⟩) L.length cap5)) := Lib.hid (by
        have h := hq2.bump hne hkt (L[k].2 + 1)
        rw [tk_at L hlt] at h
        have e := tk_length L hk
        rw [e] at h
        rw [tk_succ L hlt]
        exact h)
      have HC2 := Lib.hid (HC.out.setCell (p := ⟨gv, k * 11 + 10, none⟩) (.inr (HF6.out gv rfl)) (.int .i64 (L[k].2 + 1)))
      have hk3 : (k : Int) < (L.length : Int) := by omega
      clear hw hcell hq2 HQ HC
      generalize L[k].2 = v at *
      go_wp2_with fail
      go_roundw
      case rel => exact ⟨k + 1, by omega, by go_num, HS, HC2⟩
      case measure => simp [intOf]; omega
    · obtain rfl : k = L.length := by omega
      have hk2 : decide ((L.length : Int) < (L.length : Int)) = false := by simp
      have HQ2 := Lib.hid (tk_all L ▸ HQ.out)
      go_wp2_with fail
      go_end0
      exact ⟨rfl, ⟨_, HQ2.out, HF6.out⟩, HC.out⟩
/-- What a Take comes to. -/
structure RTook (w : World) (g : Nat) (most ref : Int) (L : List (Ms × Int)) (e : Ending) (w' : World) : Prop where
  at_ : ∃ b, ∃ h : b < L.length, Bst L L.length b ∧ e = .returned (.tuple #[msv L[b].1, .bool true]) ∧ RTurn w g most ref (L.eraseIdx b) w'
set_option maxRecDepth 100000 in
theorem rtake_empty (q : RA w g most ref [] s) : Calls Try.prog 20 #[.pointer (some ⟨g, 0, none⟩)] w fun e w' => e = .returned (.tuple #[msv msz, .bool false]) ∧ Chg NoB w w' := by
  obtain ⟨p, cap, rfl, _⟩ := own_form q.own
  have HQ := Lib.hid q
  clear q
  go_enter Try.func20, Try.ntmps20
  go_upto_region 2 with fail
  have HB := Lib.hid (Blk.new w 31 (mc msz))
  have HC := Lib.hid (Chg.al w (Obj.cells (mc msz) 31))
  have HQ2 := Lib.hid (HQ.out.st (Chg.al w (Obj.cells (mc msz) 31)))
  generalize w.alloc (Obj.cells _ 31) = W at *
  have k0 := HQ2.out.blk.cell 0
  obtain ⟨c0, c1, c2, c3, c4, c5, c6, c7, c8, c9⟩ := ten HB.out
  obtain ⟨f0, f1, f2, f3, f4, f5, f6, f7, f8, f9, f10⟩ := ten_frozen HB.out
  go_wp2_with fail
  go_loopw [4, 13] (fun a i wr => a = .int .i64 (-1) ∧ i = .int .i64 0 ∧ wr = W) (fun _ _ _ => 0)
  case atStart => exact ⟨rfl, rfl, rfl⟩
  case round =>
    obtain ⟨rfl, rfl, rfl⟩ := hrel
    go_wp2_with fail
    exact back_ms2 rfl msz (.bool false) rfl rfl (ten_set HB.out _ _ _ _ _ _ _ _ _ _) rfl ⟨rfl, ten_chg HC.out (.inr (Nat.le_refl _)) _ _ _ _ _ _ _ _ _ _⟩
theorem Bst.first (L : List (Ms × Int)) : Bst L 1 0 := by
  refine ⟨fun j hj => ?_, fun j hj => by omega, fun h => by omega⟩
  obtain rfl : j = 0 := by omega
  exact Int.le_refl _
set_option maxRecDepth 100000 in
set_option maxHeartbeats 4000000 in
theorem rtake_some (q : RA w g most ref L s) (hL : 0 < L.length) (hl : L.length ≤ 1000) : Calls Try.prog 20 #[.pointer (some ⟨g, 0, none⟩)] w (RTook w g most ref L) := by
  obtain ⟨p, cap, rfl, hcap, hmax, hp⟩ := own_form q.own
  obtain ⟨gv, rfl, hgv, hgg, _⟩ := hp hL
  unfold maxLen at hmax
  have HQ := Lib.hid q
  have hgw : g < w.heap.size := q.blk.lt
  clear q hp
  go_enter Try.func20, Try.ntmps20
  go_upto_region 2 with fail
  have hB := Blk.new w 31 (mc msz)
  have hC := Chg.al w (Obj.cells (mc msz) 31)
  have HQ2 := Lib.hid (HQ.out.st hC)
  have hz : w.heap.size + 1 ≤ (w.alloc (Obj.cells (mc msz) 31)).heap.size := by simp
  generalize w.alloc (Obj.cells _ 31) = W at *
  have k0 := HQ2.out.blk.cell 0
  go_wp2_with fail
  go_loopw [4, 13] (fun a i wr => ∃ (k : Nat) (av : Int), k ≤ L.length ∧ i = .int .i64 k ∧ a = .int .i64 av ∧ Hid ((k = 0 ∧ av = -1) ∨ ∃ c : Nat, av = c ∧ c < L.length ∧ 0 < k ∧ Bst L k c) ∧ Chg NoB W wr) (fun _ i _ => L.length - (intOf i).toNat)
  case atStart => exact ⟨0, -1, Nat.zero_le _, rfl, rfl, Lib.hid (.inl ⟨rfl, rfl⟩), Chg.refl _ _⟩
  case round =>
    clear k0
    obtain ⟨k, av, hk, rfl, rfl, HA, HC⟩ := hrel
    have hq := HQ2.out.st HC
    have k0 := hq.blk.cell 0
    by_cases hlt : k < L.length
    · have hk2 : decide ((k : Int) < (L.length : Int)) = true := by simpa using hlt
      have hk3 : (k : Int) < (L.length : Int) := by omega
      obtain ⟨_, he, hgv2, _, hcell⟩ := hq.at_ hlt
      obtain rfl := (Addr.mk.inj (Option.some.inj he)).1
      have HWt := Lib.hid (wt_at L hlt)
      have e0 := (hcell 0 (by decide)).1
      have e1 := (hcell 1 (by decide)).1
      have e2 := (hcell 2 (by decide)).1
      have e3 := (hcell 3 (by decide)).1
      have e4 := (hcell 4 (by decide)).1
      have e5 := (hcell 5 (by decide)).1
      have e6 := (hcell 6 (by decide)).1
      have e7 := (hcell 7 (by decide)).1
      have e8 := (hcell 8 (by decide)).1
      have e9 := (hcell 9 (by decide)).1
      have e10 := (hcell 10 (by decide)).1
      simp only [el, List.getElem?_cons_zero, List.getElem?_cons_succ] at e0 e1 e2 e3 e4 e5 e6 e7 e8 e9 e10
      rw [Nat.add_zero] at e0
      have H1 := Lib.hid (fun u hu => hq.one u (List.mem_flatMap.2 ⟨L[k], List.getElem_mem hlt, hu⟩) : ∀ u ∈ el L[k], u.oneCell' = true)
      generalize L[k] = x at *
      have o7 := fun (a : Addr) (w : World) => run_store Try.prog w a x.1.e .plain (H1.out _ (by simp))
      have o8 := fun (a : Addr) (w : World) => run_store Try.prog w a x.1.d .plain (H1.out _ (by simp))
      have o9 := fun (a : Addr) (w : World) => run_store Try.prog w a x.1.m .plain (H1.out _ (by simp))
      clear hcell
      go_upto_region 5 with fail
      have hAl := Chg.al wr (.cells (el x).toArray 74)
      have B6 := Blk.new wr 74 (el x).toArray
      have hq2 := hq.st hAl
      have hx : (wr.alloc (Obj.cells (el x).toArray 74)).cell? ⟨wr.heap.size, 10, none⟩ = some (.int .i64 x.2) := B6.cell 10
      replace HC := HC.trans hAl
      clear e0 e1 e2 e3 e4 e5 e6 e7 e8 e9 e10 o7 o8 o9 H1 k0 hAl B6 hq
      generalize wr.alloc (Obj.cells _ 74) = W2 at *
      rw [← HWt.out] at hx
      have k0 := hq2.blk.cell 0
      clear HWt
      rcases HA.out with ⟨rfl, rfl⟩ | ⟨c, rfl, hc, hk0, hbst⟩
      · go_quiet (fail)
        have HC3 := HC.trans ((Chg.refl NoB W2).drewN nq)
        clear hq2 k0 hx
        generalize W2.drewN nq = W3 at *
        go_wp2_with fail
        go_roundw
        case rel => exact ⟨0 + 1, (0 : Nat), by omega, by go_num, rfl, Lib.hid (.inr ⟨0, rfl, hL, by decide, Bst.first L⟩), HC3⟩
        case measure => simp [intOf]; omega
      · have hn2 : decide ((c : Int) < 0) = false := by simp
        have hc3 : (c : Int) < (L.length : Int) := by omega
        obtain ⟨_, he2, _, _, hcell2⟩ := hq2.at_ hc
        obtain rfl := (Addr.mk.inj (Option.some.inj he2)).1
        have hy := (hcell2 10 (by decide)).1
        simp only [el, List.getElem?_cons_zero, List.getElem?_cons_succ] at hy
        rw [← wt_at L hc] at hy
        have HBst := Lib.hid hbst
        clear hcell2 hbst
        by_cases hgt : wt L c < wt L k
        · have hg2 : decide (wt L c < wt L k) = true := by simpa using hgt
          have HBk := Lib.hid (HBst.out.move hgt)
          clear hgt
          go_quiet (fail)
          have HC3 := HC.trans ((Chg.refl NoB W2).drewN nq)
          clear hq2 k0 hx hy
          generalize W2.drewN nq = W3 at *
          go_wp2_with fail
          go_roundw
          case rel => exact ⟨k + 1, (k : Nat), by omega, by go_num, rfl, Lib.hid (.inr ⟨k, rfl, hlt, by omega, HBk.out⟩), HC3⟩
          case measure => simp [intOf]; omega
        · have hg2 : decide (wt L c < wt L k) = false := by simpa using hgt
          have HBk := Lib.hid (HBst.out.stay (by omega))
          clear hgt
          go_quiet (fail)
          have HC3 := HC.trans ((Chg.refl NoB W2).drewN nq)
          clear hq2 k0 hx hy
          generalize W2.drewN nq = W3 at *
          go_wp2_with fail
          go_roundw
          case rel => exact ⟨k + 1, (c : Nat), by omega, by go_num, rfl, Lib.hid (.inr ⟨c, rfl, hc, by omega, HBk.out⟩), HC3⟩
          case measure => simp [intOf]; omega
    · obtain rfl : k = L.length := by omega
      obtain ⟨c, rfl, hc, hbst⟩ : ∃ c : Nat, av = c ∧ c < L.length ∧ Bst L L.length c := by
        rcases HA.out with ⟨h, _⟩ | ⟨c, h1, h2, _, h3⟩
        · omega
        · exact ⟨c, h1, h2, h3⟩
      have hn2 : decide ((c : Int) < 0) = false := by simp
      have hk2 : decide ((L.length : Int) < (L.length : Int)) = false := by simp
      have hc3 : (c : Int) < (L.length : Int) := by omega
      obtain ⟨_, he2, hgvr, _, hcell2⟩ := hq.at_ hc
      obtain rfl := (Addr.mk.inj (Option.some.inj he2)).1
      have e0 := (hcell2 0 (by decide)).1
      have e1 := (hcell2 1 (by decide)).1
      have e2 := (hcell2 2 (by decide)).1
      have e3 := (hcell2 3 (by decide)).1
      have e4 := (hcell2 4 (by decide)).1
      have e5 := (hcell2 5 (by decide)).1
      have e6 := (hcell2 6 (by decide)).1
      have e7 := (hcell2 7 (by decide)).1
      have e8 := (hcell2 8 (by decide)).1
      have e9 := (hcell2 9 (by decide)).1
      simp only [el, List.getElem?_cons_zero, List.getElem?_cons_succ] at e0 e1 e2 e3 e4 e5 e6 e7 e8 e9
      rw [Nat.add_zero] at e0
      have H1 := Lib.hid (fun u hu => hq.one u (List.mem_flatMap.2 ⟨L[c], List.getElem_mem hc, hu⟩) : ∀ u ∈ el L[c], u.oneCell' = true)
      generalize hxc : L[c] = x at e0 e1 e2 e3 e4 e5 e6 e7 e8 e9 H1
      have HX := Lib.hid hxc
      have HBst := Lib.hid hbst
      have o7 := fun (a : Addr) (w : World) => run_store Try.prog w a x.1.e .plain (H1.out _ (by simp))
      have o8 := fun (a : Addr) (w : World) => run_store Try.prog w a x.1.d .plain (H1.out _ (by simp))
      have o9 := fun (a : Addr) (w : World) => run_store Try.prog w a x.1.m .plain (H1.out _ (by simp))
      clear hcell2 hxc hbst
      go_upto_region 11 with fail
      have hAl := Chg.al wr (.cells (mc x.1) 31)
      have HM := Lib.hid (Blk.new wr 31 (mc x.1))
      have hq2 := hq.st hAl
      have hwr : w.heap.size < wr.heap.size := by have := HC.size; omega
      have hgr : g < w.heap.size := hgw
      replace HC := HC.trans hAl
      have hB2 := hB.st HC
      clear e0 e1 e2 e3 e4 e5 e6 e7 e8 e9 o7 o8 o9 k0 hq
      generalize hWW : wr.alloc (Obj.cells (mc x.1) 31) = W2 at *
      have hWs : W2.heap.size = wr.heap.size + 1 := by rw [← hWW]; simp
      clear hWW
      obtain ⟨N, hN⟩ : ∃ N, L.length = N + 1 := ⟨L.length - 1, by omega⟩
      have hown := hq2.own
      obtain ⟨_, _, he3, _, _, hcell⟩ := own_form hown
      obtain ⟨_, rfl, _, _, hcell⟩ := hcell (by omega)
      simp only [Value.slice.injEq, Option.some.injEq, Addr.mk.injEq, and_true, true_and] at he3
      obtain ⟨rfl, rfl⟩ := he3
      have hcw : ∀ w', Chg NoB W2 w' → ∀ j, j < L.length * 11 → w'.cell? ⟨gv, j, none⟩ = (fl L)[j]? := fun w' hC j hj => (hC.cell (p := ⟨gv, j, none⟩) (by have := (hown.lt gv rfl).2; exact this) id).trans (hcell j hj).1
      obtain ⟨A, hA, HS2⟩ : ∃ A : Addr, (if cap = c + 1 then some (⟨gv, 0, none⟩ : Addr) else some ⟨gv, (c + 1) * 11, none⟩) = some A ∧ Hid (∀ w', Chg NoB W2 w' → Src w' (.slice (some A) (N - c) (cap - (c + 1))) (N - c) 11 (fl (L.drop (c + 1)))) := by
        have hln : (fl (L.drop (c + 1))).length = (N - c) * 11 := by rw [fl_length, List.length_drop, hN]; congr 1; omega
        by_cases h : cap = c + 1
        · refine ⟨⟨gv, 0, none⟩, by simp [h], fun w' hC => .inr ⟨_, _, rfl, hln, fun t u hu => ?_⟩⟩
          have h0 : (fl (L.drop (c + 1))).length = 0 := by rw [hln]; omega
          rw [List.length_eq_zero_iff.1 h0] at hu
          simp at hu
        · refine ⟨⟨gv, (c + 1) * 11, none⟩, by simp [h], fun w' hC => .inr ⟨_, _, rfl, hln, fun t u hu => ?_⟩⟩
          have ht : t < (N - c) * 11 := by
            have := (List.getElem?_eq_some_iff.1 hu).1
            rwa [hln] at this
          rw [Addr.add_lit]
          refine (hcw w' hC ((c + 1) * 11 + t) (by omega)).trans ?_
          rw [← List.getElem?_drop, fl_drop]
          exact hu
      have HS1 : Hid (∀ w', Chg NoB W2 w' → Src w' (.slice (some ⟨gv, 0, none⟩) c cap) c 11 (fl (L.take c))) := Lib.hid fun w' hC => .inr ⟨_, _, rfl, by rw [fl_length, List.length_take]; congr 1; omega, fun t u hu => by
        have ht : t < c * 11 := by
          have := (List.getElem?_eq_some_iff.1 hu).1
          rw [fl_length, List.length_take] at this
          omega
        rw [Addr.add_lit, Nat.zero_add]
        refine (hcw w' hC t (by omega)).trans ?_
        rw [← fl_take, List.getElem?_take_of_lt ht] at hu
        exact hu⟩
      have HO1 : Hid (∀ u ∈ fl L, u.oneCell' = true) := hq2.one
      have HBk := Lib.hid hq2.blk
      have hEl : (L.eraseIdx c).length = N := by rw [List.length_eraseIdx_of_lt hc]; omega
      have HEq : Hid (fl (L.take c) ++ fl (L.drop (c + 1)) = fl (L.eraseIdx c)) := Lib.hid (by rw [← fl_append, List.eraseIdx_eq_take_drop_succ])
      have HEl := Lib.hid hEl
      have HB2 := Lib.hid hB2
      have HCC := Lib.hid (hC.trans HC)
      have hic : c ≤ cap := by omega
      have hjc : c + 1 ≤ cap := by omega
      have hcN : c ≤ N := by omega
      have hNi2 : c + (N - c) = N := by omega
      have hne : c ≠ c + 1 := by omega
      have h01 : (0 : Int) ≤ (c : Int) + 1 := by omega
      have h02 : (c : Int) + 1 ≤ (N : Int) + 1 := by omega
      have hN2 : (c : Int) ≤ (N : Int) + 1 := by omega
      have hwp : IntKind.i64.wrap ((c : Int) + 1) = (c : Int) + 1 := by rw [IntKind.wrap_i64]; omega
      have htn : ((c : Int) + 1).toNat = c + 1 := by omega
      have hN1000 : N ≤ 1000 := by omega
      have HN := Lib.hid hN
      rw [hN]
      clear hq2 hown hcell hcw hEl hB2 hC HC hN HA HQ2
      obtain ⟨i9, hi9, z9, s9, y9⟩ := info_parts infI
      refine start_ (n := 19) (S := fun w' => w'.cell? ⟨g, 0, none⟩ = some (.slice (some ⟨gv, 0, none⟩) (N + 1) cap)) (ds := [18]) #[false, false, false, false, false, false, false, false, false, false, false, false, false, false, false, false, false, false, false] (by kernel_rfl) rfl rfl ((HN.out ▸ (HBk.out.st (Chg.dr W2)).cell 0)) (fun hHeld => ?_)
      refine pure_ (i := 0) (N := some 46) (v := ?_) (a' := ?_) #[true, false, false, false, false, false, false, false, false, false, false, false, false, false, false, false, false, false, false] rfl rfl (by kernel_rfl) (fun _ _ _ h => h) (Or.inl ⟨by rfl, ?_⟩) ?_ ?_
      rotate_left
      · intro w'
        go_simp
        with_reducible rfl
      rotate_left
      · simp only [Act.put, List.setIfInBounds_toArray, List.set_cons_zero, List.set_cons_succ]
        rfl
      refine pure_ (i := 1) (N := some 47) (v := ?_) (a' := ?_) #[true, true, false, false, false, false, false, false, false, false, false, false, false, false, false, false, false, false, false] rfl rfl (by kernel_rfl) (fun _ _ _ h => h) (Or.inl ⟨by rfl, ?_⟩) ?_ ?_
      rotate_left
      · intro w'
        go_simp
        with_reducible rfl
      rotate_left
      · simp only [Act.put, List.setIfInBounds_toArray, List.set_cons_zero, List.set_cons_succ]
        rfl
      refine pure_ (i := 2) (N := some 48) (v := ?_) (a' := ?_) #[true, true, true, false, false, false, false, false, false, false, false, false, false, false, false, false, false, false, false] rfl rfl (by kernel_rfl) (fun _ _ _ h => h) (Or.inl ⟨by rfl, ?_⟩) ?_ ?_
      rotate_left
      · intro w'
        go_simp
        with_reducible rfl
      rotate_left
      · simp only [Act.put, List.setIfInBounds_toArray, List.set_cons_zero, List.set_cons_succ]
        rfl
      refine pure_ (i := 3) (N := some 49) (v := ?_) (a' := ?_) #[true, true, true, true, false, false, false, false, false, false, false, false, false, false, false, false, false, false, false] rfl rfl (by kernel_rfl) (fun _ _ _ h => h) (Or.inl ⟨by rfl, ?_⟩) ?_ ?_
      rotate_left
      · intro w'
        go_simp
        with_reducible rfl
      rotate_left
      · simp only [Act.put, List.setIfInBounds_toArray, List.set_cons_zero, List.set_cons_succ]
        rfl
      refine pure_ (i := 5) (N := some 51) (v := ?_) (a' := ?_) #[true, true, true, true, false, true, false, false, false, false, false, false, false, false, false, false, false, false, false] rfl rfl (by kernel_rfl) (fun _ _ _ h => h) (Or.inl ⟨by rfl, ?_⟩) ?_ ?_
      rotate_left
      · intro w'
        go_simp
        with_reducible rfl
      rotate_left
      · simp only [Act.put, List.setIfInBounds_toArray, List.set_cons_zero, List.set_cons_succ]
        rfl
      refine pure_ (i := 8) (N := some 54) (v := ?_) (a' := ?_) #[true, true, true, true, false, true, false, false, true, false, false, false, false, false, false, false, false, false, false] rfl rfl (by kernel_rfl) (fun _ _ _ h => h) (Or.inl ⟨by rfl, ?_⟩) ?_ ?_
      rotate_left
      · intro w'
        go_simp
        with_reducible rfl
      rotate_left
      · simp only [Act.put, List.setIfInBounds_toArray, List.set_cons_zero, List.set_cons_succ]
        rfl
      refine pure_ (i := 9) (N := some 55) (v := ?_) (a' := ?_) #[true, true, true, true, false, true, false, false, true, true, false, false, false, false, false, false, false, false, false] rfl rfl (by kernel_rfl) (fun _ _ _ h => h) (Or.inl ⟨by rfl, ?_⟩) ?_ ?_
      rotate_left
      · intro w'
        go_simp
        with_reducible rfl
      rotate_left
      · simp only [Act.put, List.setIfInBounds_toArray, List.set_cons_zero, List.set_cons_succ]
        rfl
      refine pure_ (i := 10) (N := some 56) (v := ?_) (a' := ?_) #[true, true, true, true, false, true, false, false, true, true, true, false, false, false, false, false, false, false, false] rfl rfl (by kernel_rfl) (fun _ _ _ h => h) (Or.inl ⟨by rfl, ?_⟩) ?_ ?_
      rotate_left
      · intro w'
        go_simp
        with_reducible rfl
      rotate_left
      · simp only [Act.put, List.setIfInBounds_toArray, List.set_cons_zero, List.set_cons_succ]
        rfl
      refine pure_ (i := 12) (N := some 58) (v := ?_) (a' := ?_) #[true, true, true, true, false, true, false, false, true, true, true, false, true, false, false, false, false, false, false] rfl rfl (by kernel_rfl) (fun _ _ _ h => h) (Or.inl ⟨by rfl, ?_⟩) ?_ ?_
      rotate_left
      · intro w'
        go_simp
        with_reducible rfl
      rotate_left
      · simp only [Act.put, List.setIfInBounds_toArray, List.set_cons_zero, List.set_cons_succ]
        rfl
      refine pure_ (i := 13) (N := some 59) (v := ?_) (a' := ?_) #[true, true, true, true, false, true, false, false, true, true, true, false, true, true, false, false, false, false, false] rfl rfl (by kernel_rfl) (fun _ _ _ h => h) (Or.inl ⟨by rfl, ?_⟩) ?_ ?_
      rotate_left
      · intro w'
        go_simp
        with_reducible rfl
      rotate_left
      · simp only [Act.put, List.setIfInBounds_toArray, List.set_cons_zero, List.set_cons_succ]
        rfl
      refine take_ (i := 4) (N := some 50) (v := ?_) (a' := ?_) #[true, true, true, true, true, true, false, false, true, true, true, false, true, true, false, false, false, false, false] rfl rfl (by kernel_rfl) (fun _ _ _ h => h) (Or.inl ⟨by rfl, ?_⟩) hHeld ?_ ?_
      rotate_left
      · intro w' s0
        go_simp
        with_reducible rfl
      rotate_left
      · simp only [Act.put, List.setIfInBounds_toArray, List.set_cons_zero, List.set_cons_succ]
        rfl
      refine pure_ (i := 6) (N := some 52) (v := ?_) (a' := ?_) #[true, true, true, true, true, true, true, false, true, true, true, false, true, true, false, false, false, false, false] rfl rfl (by kernel_rfl) (fun _ _ _ h => h) (Or.inl ⟨by rfl, ?_⟩) ?_ ?_
      rotate_left
      · intro w'
        go_simp
        with_reducible rfl
      rotate_left
      · simp only [Act.put, List.setIfInBounds_toArray, List.set_cons_zero, List.set_cons_succ]
        rfl
      refine take_ (i := 11) (N := some 57) (v := ?_) (a' := ?_) #[true, true, true, true, true, true, true, false, true, true, true, true, true, true, false, false, false, false, false] rfl rfl (by kernel_rfl) (fun _ _ _ h => h) (Or.inl ⟨by rfl, ?_⟩) hHeld ?_ ?_
      rotate_left
      · intro w' s0
        go_simp
        with_reducible rfl
      rotate_left
      · simp only [Act.put, List.setIfInBounds_toArray, List.set_cons_zero, List.set_cons_succ]
        rfl
      refine pure_ (i := 14) (N := some 60) (v := ?_) (a' := ?_) #[true, true, true, true, true, true, true, false, true, true, true, true, true, true, true, false, false, false, false] rfl rfl (by kernel_rfl) (fun _ _ _ h => h) (Or.inl ⟨by rfl, ?_⟩) ?_ ?_
      rotate_left
      · intro w'
        go_simp
        with_reducible rfl
      rotate_left
      · simp only [Act.put, List.setIfInBounds_toArray, List.set_cons_zero, List.set_cons_succ]
        rfl
      refine one_ (i := 7) (N := some 53) #[true, true, true, true, true, true, true, true, true, true, true, true, true, true, true, false, false, false, false] rfl rfl (by kernel_rfl) (by decide) (fun K hK => ?_)
      refine step_append_all (by rfl) _ _ 52 (by rfl) W2.heap.size 74 i9 _ 11 144 Try.underlying52 hi9 z9 s9 y9 rfl (by omega) (.slice none 0 0) 0 [] (by rfl) ⟨rfl, .inl ⟨rfl, rfl⟩⟩ (.slice (some ⟨gv, 0, none⟩) c cap) c (fl (L.take c)) (by simp [Act.eval]) (HS1.out _ (Chg.dr W2)) (fun u hu => HO1.out u (List.mem_of_mem_take (i := c * 11) (by rw [fl_take]; exact hu))) (by unfold maxLen; omega) (by omega) (Nat.le_refl _) ?_
      intro v5 w5 hown5 hgrow5 hat5
      have hc5 := (Chg.dr W2).trans (grown_nil hgrow5)
      rw [Nat.zero_add, List.nil_append] at hown5
      have HO5 := Lib.hid hown5
      have HC5 := Lib.hid hc5
      clear hown5 hgrow5 hat5 hc5
      refine hK.out _ _ ((HN.out ▸ (HBk.out.st HC5.out).cell 0)) (fun hHeld => ?_)
      clear hK K
      refine norm_ (a' := ?_) ?_ ?_
      rotate_left
      · show Act.put _ (some 53) _ = _
        simp only [Act.put, List.setIfInBounds_toArray, List.set_cons_zero, List.set_cons_succ]
        rfl
      refine one_ (i := 15) (N := some 61) #[true, true, true, true, true, true, true, true, true, true, true, true, true, true, true, true, false, false, false] rfl rfl (by kernel_rfl) (by decide) (fun K hK => ?_)
      refine step_append_all (by rfl) _ _ 52 (by rfl) W2.heap.size 74 i9 _ 11 144 Try.underlying52 hi9 z9 s9 y9 rfl (by omega) v5 c (fl (L.take c)) (by rfl) HO5.out (.slice (some A) (N - c) (cap - (c + 1))) (N - c) (fl (L.drop (c + 1))) (by simp [Act.eval]) (HS2.out _ HC5.out) (fun u hu => HO1.out u (List.mem_of_mem_drop (i := (c + 1) * 11) (by rw [fl_drop]; exact hu))) (by unfold maxLen; omega) (by omega) HC5.out.size ?_
      intro v6 w6 hown6 hgrow6 hat6
      rw [hNi2, HEq.out] at hown6
      have hc6 := HC5.out.then_ (cgrown hgrow6) fun j hj hs => by have := (HO5.out.lt j hs).1; omega
      obtain ⟨p6, cap6, rfl, _⟩ := own_form hown6
      have HO6 := Lib.hid hown6
      have HC6 := Lib.hid hc6
      clear hown6 hgrow6 hat6 hc6
      have k0 := (HBk.out.st HC6.out).cell 0
      have f0 := (HBk.out.st HC6.out).frozen 0
      refine hK.out _ _ ((HN.out ▸ (HBk.out.st HC6.out).cell 0)) (fun hHeld => ?_)
      clear hK K
      refine norm_ (a' := ?_) ?_ ?_
      rotate_left
      · show Act.put _ (some 61) _ = _
        simp only [Act.put, List.setIfInBounds_toArray, List.set_cons_zero, List.set_cons_succ]
        rfl
      refine pure_ (i := 16) (N := some 62) (v := ?_) (a' := ?_) #[true, true, true, true, true, true, true, true, true, true, true, true, true, true, true, true, true, false, false] rfl rfl (by kernel_rfl) (fun _ _ _ h => h) (Or.inl ⟨by rfl, ?_⟩) ?_ ?_
      rotate_left
      · intro w'
        go_simp
        with_reducible rfl
      rotate_left
      · simp only [Act.put, List.setIfInBounds_toArray, List.set_cons_zero, List.set_cons_succ]
        rfl
      refine pure_ (i := 17) (N := some 63) (v := ?_) (a' := ?_) #[true, true, true, true, true, true, true, true, true, true, true, true, true, true, true, true, true, true, false] rfl rfl (by kernel_rfl) (fun _ _ _ h => h) (Or.inl ⟨by rfl, ?_⟩) ?_ ?_
      rotate_left
      · intro w'
        go_simp
        with_reducible rfl
      rotate_left
      · simp only [Act.put, List.setIfInBounds_toArray, List.set_cons_zero, List.set_cons_succ]
        rfl
      refine last_ (i := 18) (N := none) #[true, true, true, true, true, true, true, true, true, true, true, true, true, true, true, true, true, true, true] rfl rfl (by kernel_rfl) (by decide) (fun K hK => ?_)
      refine skip_ (w1 := ?_) (by rfl) rfl ?_ ?_
      rotate_left
      · go_simp
        rfl
      refine hK.out _ _ ?_
      clear hK K
      refine done_ (by kernel_rfl) ?_
      have hs : Chg (Only g) w6 (w6.setCell ⟨g, 0, none⟩ (.slice p6 N cap6)) := (Chg.refl (Only g) w6).setOwn 0 _
      have HR : Hid (RTurn w g most ref (L.eraseIdx c) (w6.setCell ⟨g, 0, none⟩ (.slice p6 N cap6))) := Lib.hid ⟨⟨.slice p6 N cap6, ⟨(HBk.out.st HC6.out).set_ 0 _, by rw [HEl.out]; exact own_chg (own_low HO6.out (by omega)) hs fun k hk hs => by have := (HO6.out.lt k hk).1; unfold Only at hs; omega, fun u hu => by
          obtain ⟨y, hy, hu⟩ := List.mem_flatMap.1 hu
          exact HO1.out u (List.mem_flatMap.2 ⟨y, List.mem_of_mem_eraseIdx hy, hu⟩)⟩, fun k hk => by have := (HO6.out.lt k hk).1; have := HCC.out.size; omega⟩, (HCC.out.trans HC6.out).of_no.trans hs⟩
      have n1 : g ≠ w.heap.size := by omega
      have n2 : g ≠ wr.heap.size := by omega
      have n3 : w.heap.size ≠ g := by omega
      have n4 : wr.heap.size ≠ g := by omega
      have n5 : w.heap.size ≠ wr.heap.size := by omega
      have n6 : wr.heap.size ≠ w.heap.size := by omega
      have HM7 := (HM.out.st HC6.out).far (p := ⟨g, 0, none⟩) n4 (.slice p6 N cap6)
      have HB7 := (HB2.out.st HC6.out).far (p := ⟨g, 0, none⟩) n3 (.slice p6 N cap6)
      clear hs k0 f0
      generalize w6.setCell ⟨g, 0, none⟩ (Value.slice p6 N cap6) = W7 at *
      obtain ⟨d0, d1, d2, d3, d4, d5, d6, d7, d8, d9⟩ := ten HM7
      obtain ⟨x0, x1, x2, x3, x4, x5, x6, x7, x8, x9⟩ := ten HB7
      obtain ⟨g0, g1, g2, g3, g4, g5, g6, g7, g8, g9, g10⟩ := ten_frozen HB7
      have o7 := fun (a : Addr) (w : World) => run_store Try.prog w a x.1.e .plain (H1.out _ (by simp))
      have o8 := fun (a : Addr) (w : World) => run_store Try.prog w a x.1.d .plain (H1.out _ (by simp))
      have o9 := fun (a : Addr) (w : World) => run_store Try.prog w a x.1.m .plain (H1.out _ (by simp))
      go_wp2_with fail
      have hz7 := ten_chg (Chg.refl (Only w.heap.size) W7) (b := w.heap.size) (.inl rfl) (.int .i64 x.1.a0) (.int .i64 x.1.a1) (.int .i64 x.1.a2) (.int .i64 x.1.a3) (.int .i64 x.1.a4) (.string x.1.key) (.int .i64 x.1.a6) x.1.e x.1.d x.1.m
      obtain ⟨⟨s9', hr9, hf9⟩, hc9⟩ := HR.out
      exact back_ms2 rfl x.1 (.bool true) rfl rfl (ten_set (x := msz) HB7 _ _ _ _ _ _ _ _ _ _) rfl ⟨⟨c, hc, HBst.out, by rw [HX.out], ⟨s9', hr9.chg_ hz7 n1 fun k hk hs => by
        unfold Only at hs
        subst hs
        have h9 := hf9 _ hk
        have h8 := hr9.own
        obtain ⟨_, hr⟩ := h8
        rcases hr with ⟨rfl, _⟩ | ⟨g9, cap9, cur9, rfl, _, hB9, _⟩
        · cases hk
        · obtain rfl : g9 = w.heap.size := Option.some.inj hk
          have := hB9.symm.trans HB7
          simp only [Option.some.injEq, Obj.cells.injEq] at this
          exact absurd this.2.1 (by decide), hf9⟩, hc9.then_ hz7 fun j hj hs => by unfold Only at hs; omega⟩⟩
end
end Go.Proofs.Ytcefaohdikongaa

/- The reference's messages: what a kind has, Plain; the laws' light. No statement is proved here. -/
import Derived.Test.YtcefaohdikongaaCopied
namespace Go.Proofs.Ytcefaohdikongaa
open Go.RowKit Go.Proofs.YtcefaohdikongaaW.PrintLast

/-- What a kind of message has, as bits. -/
def hasI (k : Int) : Int := if k = 1 then 17 else if k = 2 then 23 else if k = 3 then 19 else if k = 4 then 5 else if k = 5 then 17 else if k = 6 then 40 else if k = 7 then 56 else if k = 8 then 64 else if k = 9 then 64 else 0
theorem hasI_cases (k : Int) : hasI k = 17 ∨ hasI k = 23 ∨ hasI k = 19 ∨ hasI k = 5 ∨ hasI k = 40 ∨ hasI k = 56 ∨ hasI k = 64 ∨ hasI k = 0 := by
  unfold hasI
  repeat' split
  all_goals simp
theorem has_any (k : Int) (w : World) : Calls Try.prog 36 #[.int .i64 k] w fun e w' => e = .returned (.int .i64 (hasI k)) ∧ w' = w := by
  by_cases h1 : k = 1
  · subst h1
    go_enter Try.func36, Try.ntmps36
    go_wp2
    go_ret
    exact ⟨rfl, rfl⟩
  have b1 : (k == 1) = false := by simpa using h1
  by_cases h2 : k = 2
  · subst h2
    go_enter Try.func36, Try.ntmps36
    go_wp2
    go_ret
    exact ⟨rfl, rfl⟩
  have b2 : (k == 2) = false := by simpa using h2
  by_cases h3 : k = 3
  · subst h3
    go_enter Try.func36, Try.ntmps36
    go_wp2
    go_ret
    exact ⟨rfl, rfl⟩
  have b3 : (k == 3) = false := by simpa using h3
  by_cases h4 : k = 4
  · subst h4
    go_enter Try.func36, Try.ntmps36
    go_wp2
    go_ret
    exact ⟨rfl, rfl⟩
  have b4 : (k == 4) = false := by simpa using h4
  by_cases h5 : k = 5
  · subst h5
    go_enter Try.func36, Try.ntmps36
    go_wp2
    go_ret
    exact ⟨rfl, rfl⟩
  have b5 : (k == 5) = false := by simpa using h5
  by_cases h6 : k = 6
  · subst h6
    go_enter Try.func36, Try.ntmps36
    go_wp2
    go_ret
    exact ⟨rfl, rfl⟩
  have b6 : (k == 6) = false := by simpa using h6
  by_cases h7 : k = 7
  · subst h7
    go_enter Try.func36, Try.ntmps36
    go_wp2
    go_ret
    exact ⟨rfl, rfl⟩
  have b7 : (k == 7) = false := by simpa using h7
  by_cases h8 : k = 8
  · subst h8
    go_enter Try.func36, Try.ntmps36
    go_wp2
    go_ret
    exact ⟨rfl, rfl⟩
  have b8 : (k == 8) = false := by simpa using h8
  by_cases h9 : k = 9
  · subst h9
    go_enter Try.func36, Try.ntmps36
    go_wp2
    go_ret
    exact ⟨rfl, rfl⟩
  have b9 : (k == 9) = false := by simpa using h9
  have hh : hasI k = 0 := by simp [hasI, h1, h2, h3, h4, h5, h6, h7, h8, h9]
  rw [hh]
  clear hh h1 h2 h3 h4 h5 h6 h7 h8 h9
  go_enter Try.func36, Try.ntmps36
  go_wp2
  go_ret
  exact ⟨rfl, rfl⟩
/-- A message without what its kind has not. -/
def hasB (h : Int) (j : Nat) : Bool := h.toNat.testBit j
def plain (m : Mg) : Mg := ⟨m.k, m.f, m.t, if hasB (hasI m.k) 0 then m.op else 0, if hasB (hasI m.k) 1 then m.fr else 0, if hasB (hasI m.k) 2 then m.key else ⟨#[]⟩, if hasB (hasI m.k) 3 then m.bk else 0, if hasB (hasI m.k) 4 then m.es else [], if hasB (hasI m.k) 5 then m.ds else [], if hasB (hasI m.k) 6 then m.ms else []⟩
set_option maxRecDepth 100000 in
set_option maxHeartbeats 4000000 in
theorem plain_any {w : World} {A : Nat → Prop} (m : Mg) (e d s : Value) (he : Rd w A (ensD m.es) e) (hd : Rd w A (dgsD m.ds) d) (hs : Rd w A (prsD m.ms) s) :
    Calls Try.prog 27 #[msv (mgx m e d s)] w fun r w' => (∃ x, r = .returned (msv x) ∧ MR w' A (plain m) x) ∧ Chg NoB w w' := by
  obtain ⟨p1, c1, rfl, _⟩ := ens_form he
  obtain ⟨q1, c2, rfl, _⟩ := dgs_form hd
  obtain ⟨r1, c3, rfl, _⟩ := prs_form hs
  have B1 := (Blk.new w 31 (mc (mgx m (.slice p1 m.es.length c1) (.slice q1 m.ds.length c2) (.slice r1 m.ms.length c3)))).alloc (.cells (mc msz) 31)
  have B2 := Blk.new_ (k := w.heap.size + 1) (w.alloc (.cells (mc (mgx m (.slice p1 m.es.length c1) (.slice q1 m.ds.length c2) (.slice r1 m.ms.length c3))) 31)) 31 (mc msz) (by simp)
  have hC := ((Chg.refl NoB w).alloc (.cells (mc (mgx m (.slice p1 m.es.length c1) (.slice q1 m.ds.length c2) (.slice r1 m.ms.length c3))) 31)).alloc (.cells (mc msz) 31)
  have hz : w.heap.size + 2 ≤ ((w.alloc (.cells (mc (mgx m (.slice p1 m.es.length c1) (.slice q1 m.ds.length c2) (.slice r1 m.ms.length c3))) 31)).alloc (.cells (mc msz) 31)).heap.size := by simp
  replace he := Lib.hid he
  replace hd := Lib.hid hd
  replace hs := Lib.hid hs
  go_enter Try.func27, Try.ntmps27
  go_wp2_with fail
  generalize (w.alloc (Obj.cells _ 31)).alloc (Obj.cells _ 31) = W at *
  refine (has_any m.k _).mono ?_
  rintro _ W0 ⟨rfl, rfl⟩
  obtain ⟨f0, f1, f2, f3, f4, f5, f6, f7, f8, f9⟩ := cells10 B1
  obtain ⟨g0, g1, g2, g3, g4, g5, g6, g7, g8, g9⟩ := cells10 B2
  obtain ⟨k0, k1, k2, k3, k4, k5, k6, k7, k8, k9⟩ := frz10 B2
  obtain ⟨h, hh⟩ : ∃ h, hasI m.k = h := ⟨_, rfl⟩
  have HH := Lib.hid hh
  have H8 := hh ▸ hasI_cases m.k
  rw [hh]
  have B2 := Lib.hid B2
  have hC := Lib.hid hC
  clear hh B1
  rcases H8 with rfl | rfl | rfl | rfl | rfl | rfl | rfl | rfl
  · have n3 : W0.heap.size ≠ w.heap.size + 1 := by omega
    have n5 : w.heap.size < W0.heap.size := by omega
    have n6 : w.heap.size + 1 < W0.heap.size := by omega
    have n7 : W0.heap.size ≠ w.heap.size := by omega
    have n4 : w.heap.size + 1 ≠ W0.heap.size := by omega
    have b0 : bits BinOp.and IntKind.i64 17 1 = 1 := by decide
    have b1 : bits BinOp.and IntKind.i64 17 2 = 0 := by decide
    have b2 : bits BinOp.and IntKind.i64 17 4 = 0 := by decide
    have b3 : bits BinOp.and IntKind.i64 17 8 = 0 := by decide
    have b4 : bits BinOp.and IntKind.i64 17 16 = 16 := by decide
    have b5 : bits BinOp.and IntKind.i64 17 32 = 0 := by decide
    have b6 : bits BinOp.and IntKind.i64 17 64 = 0 := by decide
    go_wp2_with fail
    have CF := (chg10 (b := w.heap.size + 1) hC.out (by omega) (.int .i64 m.k) (.int .i64 m.f) (.int .i64 m.t) (.int .i64 m.op) (.int .i64 0) (.string ⟨#[]⟩) (.int .i64 0) (.slice p1 m.es.length c1) nil_ nil_).alloc (.cells #[(.int .i64 m.k), (.int .i64 m.f), (.int .i64 m.t), (.int .i64 m.op), (.int .i64 0), (.string ⟨#[]⟩), (.int .i64 0), (.slice p1 m.es.length c1), nil_, nil_] 31)
    have hp : plain m = ⟨m.k, m.f, m.t, m.op, 0, ⟨#[]⟩, 0, m.es, [], []⟩ := by
      unfold plain; rw [HH.out]; simp [hasB, Nat.testBit]
    exact back_ms rfl (mgx ⟨m.k, m.f, m.t, m.op, 0, ⟨#[]⟩, 0, [], [], []⟩ (.slice p1 m.es.length c1) nil_ nil_) rfl ((ten_set (x := msz) B2.out _ _ _ _ _ _ _ _ _ _).alloc _) rfl ⟨⟨_, rfl, ⟨(.slice p1 m.es.length c1), nil_, nil_, by rw [hp], by rw [hp]; exact (he.out.st CF), by rw [hp]; exact .nil _, by rw [hp]; exact .nil _⟩⟩, CF⟩
  · have n3 : W0.heap.size ≠ w.heap.size + 1 := by omega
    have n5 : w.heap.size < W0.heap.size := by omega
    have n6 : w.heap.size + 1 < W0.heap.size := by omega
    have n7 : W0.heap.size ≠ w.heap.size := by omega
    have n4 : w.heap.size + 1 ≠ W0.heap.size := by omega
    have b0 : bits BinOp.and IntKind.i64 23 1 = 1 := by decide
    have b1 : bits BinOp.and IntKind.i64 23 2 = 2 := by decide
    have b2 : bits BinOp.and IntKind.i64 23 4 = 4 := by decide
    have b3 : bits BinOp.and IntKind.i64 23 8 = 0 := by decide
    have b4 : bits BinOp.and IntKind.i64 23 16 = 16 := by decide
    have b5 : bits BinOp.and IntKind.i64 23 32 = 0 := by decide
    have b6 : bits BinOp.and IntKind.i64 23 64 = 0 := by decide
    go_wp2_with fail
    have CF := (chg10 (b := w.heap.size + 1) hC.out (by omega) (.int .i64 m.k) (.int .i64 m.f) (.int .i64 m.t) (.int .i64 m.op) (.int .i64 m.fr) (.string m.key) (.int .i64 0) (.slice p1 m.es.length c1) nil_ nil_).alloc (.cells #[(.int .i64 m.k), (.int .i64 m.f), (.int .i64 m.t), (.int .i64 m.op), (.int .i64 m.fr), (.string m.key), (.int .i64 0), (.slice p1 m.es.length c1), nil_, nil_] 31)
    have hp : plain m = ⟨m.k, m.f, m.t, m.op, m.fr, m.key, 0, m.es, [], []⟩ := by
      unfold plain; rw [HH.out]; simp [hasB, Nat.testBit]
    exact back_ms rfl (mgx ⟨m.k, m.f, m.t, m.op, m.fr, m.key, 0, [], [], []⟩ (.slice p1 m.es.length c1) nil_ nil_) rfl ((ten_set (x := msz) B2.out _ _ _ _ _ _ _ _ _ _).alloc _) rfl ⟨⟨_, rfl, ⟨(.slice p1 m.es.length c1), nil_, nil_, by rw [hp], by rw [hp]; exact (he.out.st CF), by rw [hp]; exact .nil _, by rw [hp]; exact .nil _⟩⟩, CF⟩
  · have n3 : W0.heap.size ≠ w.heap.size + 1 := by omega
    have n5 : w.heap.size < W0.heap.size := by omega
    have n6 : w.heap.size + 1 < W0.heap.size := by omega
    have n7 : W0.heap.size ≠ w.heap.size := by omega
    have n4 : w.heap.size + 1 ≠ W0.heap.size := by omega
    have b0 : bits BinOp.and IntKind.i64 19 1 = 1 := by decide
    have b1 : bits BinOp.and IntKind.i64 19 2 = 2 := by decide
    have b2 : bits BinOp.and IntKind.i64 19 4 = 0 := by decide
    have b3 : bits BinOp.and IntKind.i64 19 8 = 0 := by decide
    have b4 : bits BinOp.and IntKind.i64 19 16 = 16 := by decide
    have b5 : bits BinOp.and IntKind.i64 19 32 = 0 := by decide
    have b6 : bits BinOp.and IntKind.i64 19 64 = 0 := by decide
    go_wp2_with fail
    have CF := (chg10 (b := w.heap.size + 1) hC.out (by omega) (.int .i64 m.k) (.int .i64 m.f) (.int .i64 m.t) (.int .i64 m.op) (.int .i64 m.fr) (.string ⟨#[]⟩) (.int .i64 0) (.slice p1 m.es.length c1) nil_ nil_).alloc (.cells #[(.int .i64 m.k), (.int .i64 m.f), (.int .i64 m.t), (.int .i64 m.op), (.int .i64 m.fr), (.string ⟨#[]⟩), (.int .i64 0), (.slice p1 m.es.length c1), nil_, nil_] 31)
    have hp : plain m = ⟨m.k, m.f, m.t, m.op, m.fr, ⟨#[]⟩, 0, m.es, [], []⟩ := by
      unfold plain; rw [HH.out]; simp [hasB, Nat.testBit]
    exact back_ms rfl (mgx ⟨m.k, m.f, m.t, m.op, m.fr, ⟨#[]⟩, 0, [], [], []⟩ (.slice p1 m.es.length c1) nil_ nil_) rfl ((ten_set (x := msz) B2.out _ _ _ _ _ _ _ _ _ _).alloc _) rfl ⟨⟨_, rfl, ⟨(.slice p1 m.es.length c1), nil_, nil_, by rw [hp], by rw [hp]; exact (he.out.st CF), by rw [hp]; exact .nil _, by rw [hp]; exact .nil _⟩⟩, CF⟩
  · have n3 : W0.heap.size ≠ w.heap.size + 1 := by omega
    have n5 : w.heap.size < W0.heap.size := by omega
    have n6 : w.heap.size + 1 < W0.heap.size := by omega
    have n7 : W0.heap.size ≠ w.heap.size := by omega
    have n4 : w.heap.size + 1 ≠ W0.heap.size := by omega
    have b0 : bits BinOp.and IntKind.i64 5 1 = 1 := by decide
    have b1 : bits BinOp.and IntKind.i64 5 2 = 0 := by decide
    have b2 : bits BinOp.and IntKind.i64 5 4 = 4 := by decide
    have b3 : bits BinOp.and IntKind.i64 5 8 = 0 := by decide
    have b4 : bits BinOp.and IntKind.i64 5 16 = 0 := by decide
    have b5 : bits BinOp.and IntKind.i64 5 32 = 0 := by decide
    have b6 : bits BinOp.and IntKind.i64 5 64 = 0 := by decide
    go_wp2_with fail
    have CF := (chg10 (b := w.heap.size + 1) hC.out (by omega) (.int .i64 m.k) (.int .i64 m.f) (.int .i64 m.t) (.int .i64 m.op) (.int .i64 0) (.string m.key) (.int .i64 0) nil_ nil_ nil_).alloc (.cells #[(.int .i64 m.k), (.int .i64 m.f), (.int .i64 m.t), (.int .i64 m.op), (.int .i64 0), (.string m.key), (.int .i64 0), nil_, nil_, nil_] 31)
    have hp : plain m = ⟨m.k, m.f, m.t, m.op, 0, m.key, 0, [], [], []⟩ := by
      unfold plain; rw [HH.out]; simp [hasB, Nat.testBit]
    exact back_ms rfl (mgx ⟨m.k, m.f, m.t, m.op, 0, m.key, 0, [], [], []⟩ nil_ nil_ nil_) rfl ((ten_set (x := msz) B2.out _ _ _ _ _ _ _ _ _ _).alloc _) rfl ⟨⟨_, rfl, ⟨nil_, nil_, nil_, by rw [hp], by rw [hp]; exact .nil _, by rw [hp]; exact .nil _, by rw [hp]; exact .nil _⟩⟩, CF⟩
  · have n3 : W0.heap.size ≠ w.heap.size + 1 := by omega
    have n5 : w.heap.size < W0.heap.size := by omega
    have n6 : w.heap.size + 1 < W0.heap.size := by omega
    have n7 : W0.heap.size ≠ w.heap.size := by omega
    have n4 : w.heap.size + 1 ≠ W0.heap.size := by omega
    have b0 : bits BinOp.and IntKind.i64 40 1 = 0 := by decide
    have b1 : bits BinOp.and IntKind.i64 40 2 = 0 := by decide
    have b2 : bits BinOp.and IntKind.i64 40 4 = 0 := by decide
    have b3 : bits BinOp.and IntKind.i64 40 8 = 8 := by decide
    have b4 : bits BinOp.and IntKind.i64 40 16 = 0 := by decide
    have b5 : bits BinOp.and IntKind.i64 40 32 = 32 := by decide
    have b6 : bits BinOp.and IntKind.i64 40 64 = 0 := by decide
    go_wp2_with fail
    have CF := (chg10 (b := w.heap.size + 1) hC.out (by omega) (.int .i64 m.k) (.int .i64 m.f) (.int .i64 m.t) (.int .i64 0) (.int .i64 0) (.string ⟨#[]⟩) (.int .i64 m.bk) nil_ (.slice q1 m.ds.length c2) nil_).alloc (.cells #[(.int .i64 m.k), (.int .i64 m.f), (.int .i64 m.t), (.int .i64 0), (.int .i64 0), (.string ⟨#[]⟩), (.int .i64 m.bk), nil_, (.slice q1 m.ds.length c2), nil_] 31)
    have hp : plain m = ⟨m.k, m.f, m.t, 0, 0, ⟨#[]⟩, m.bk, [], m.ds, []⟩ := by
      unfold plain; rw [HH.out]; simp [hasB, Nat.testBit]
    exact back_ms rfl (mgx ⟨m.k, m.f, m.t, 0, 0, ⟨#[]⟩, m.bk, [], [], []⟩ nil_ (.slice q1 m.ds.length c2) nil_) rfl ((ten_set (x := msz) B2.out _ _ _ _ _ _ _ _ _ _).alloc _) rfl ⟨⟨_, rfl, ⟨nil_, (.slice q1 m.ds.length c2), nil_, by rw [hp], by rw [hp]; exact .nil _, by rw [hp]; exact (hd.out.st CF), by rw [hp]; exact .nil _⟩⟩, CF⟩
  · have n3 : W0.heap.size ≠ w.heap.size + 1 := by omega
    have n5 : w.heap.size < W0.heap.size := by omega
    have n6 : w.heap.size + 1 < W0.heap.size := by omega
    have n7 : W0.heap.size ≠ w.heap.size := by omega
    have n4 : w.heap.size + 1 ≠ W0.heap.size := by omega
    have b0 : bits BinOp.and IntKind.i64 56 1 = 0 := by decide
    have b1 : bits BinOp.and IntKind.i64 56 2 = 0 := by decide
    have b2 : bits BinOp.and IntKind.i64 56 4 = 0 := by decide
    have b3 : bits BinOp.and IntKind.i64 56 8 = 8 := by decide
    have b4 : bits BinOp.and IntKind.i64 56 16 = 16 := by decide
    have b5 : bits BinOp.and IntKind.i64 56 32 = 32 := by decide
    have b6 : bits BinOp.and IntKind.i64 56 64 = 0 := by decide
    go_wp2_with fail
    have CF := (chg10 (b := w.heap.size + 1) hC.out (by omega) (.int .i64 m.k) (.int .i64 m.f) (.int .i64 m.t) (.int .i64 0) (.int .i64 0) (.string ⟨#[]⟩) (.int .i64 m.bk) (.slice p1 m.es.length c1) (.slice q1 m.ds.length c2) nil_).alloc (.cells #[(.int .i64 m.k), (.int .i64 m.f), (.int .i64 m.t), (.int .i64 0), (.int .i64 0), (.string ⟨#[]⟩), (.int .i64 m.bk), (.slice p1 m.es.length c1), (.slice q1 m.ds.length c2), nil_] 31)
    have hp : plain m = ⟨m.k, m.f, m.t, 0, 0, ⟨#[]⟩, m.bk, m.es, m.ds, []⟩ := by
      unfold plain; rw [HH.out]; simp [hasB, Nat.testBit]
    exact back_ms rfl (mgx ⟨m.k, m.f, m.t, 0, 0, ⟨#[]⟩, m.bk, [], [], []⟩ (.slice p1 m.es.length c1) (.slice q1 m.ds.length c2) nil_) rfl ((ten_set (x := msz) B2.out _ _ _ _ _ _ _ _ _ _).alloc _) rfl ⟨⟨_, rfl, ⟨(.slice p1 m.es.length c1), (.slice q1 m.ds.length c2), nil_, by rw [hp], by rw [hp]; exact (he.out.st CF), by rw [hp]; exact (hd.out.st CF), by rw [hp]; exact .nil _⟩⟩, CF⟩
  · have n3 : W0.heap.size ≠ w.heap.size + 1 := by omega
    have n5 : w.heap.size < W0.heap.size := by omega
    have n6 : w.heap.size + 1 < W0.heap.size := by omega
    have n7 : W0.heap.size ≠ w.heap.size := by omega
    have n4 : w.heap.size + 1 ≠ W0.heap.size := by omega
    have b0 : bits BinOp.and IntKind.i64 64 1 = 0 := by decide
    have b1 : bits BinOp.and IntKind.i64 64 2 = 0 := by decide
    have b2 : bits BinOp.and IntKind.i64 64 4 = 0 := by decide
    have b3 : bits BinOp.and IntKind.i64 64 8 = 0 := by decide
    have b4 : bits BinOp.and IntKind.i64 64 16 = 0 := by decide
    have b5 : bits BinOp.and IntKind.i64 64 32 = 0 := by decide
    have b6 : bits BinOp.and IntKind.i64 64 64 = 64 := by decide
    go_wp2_with fail
    have CF := (chg10 (b := w.heap.size + 1) hC.out (by omega) (.int .i64 m.k) (.int .i64 m.f) (.int .i64 m.t) (.int .i64 0) (.int .i64 0) (.string ⟨#[]⟩) (.int .i64 0) nil_ nil_ (.slice r1 m.ms.length c3)).alloc (.cells #[(.int .i64 m.k), (.int .i64 m.f), (.int .i64 m.t), (.int .i64 0), (.int .i64 0), (.string ⟨#[]⟩), (.int .i64 0), nil_, nil_, (.slice r1 m.ms.length c3)] 31)
    have hp : plain m = ⟨m.k, m.f, m.t, 0, 0, ⟨#[]⟩, 0, [], [], m.ms⟩ := by
      unfold plain; rw [HH.out]; simp [hasB, Nat.testBit]
    exact back_ms rfl (mgx ⟨m.k, m.f, m.t, 0, 0, ⟨#[]⟩, 0, [], [], []⟩ nil_ nil_ (.slice r1 m.ms.length c3)) rfl ((ten_set (x := msz) B2.out _ _ _ _ _ _ _ _ _ _).alloc _) rfl ⟨⟨_, rfl, ⟨nil_, nil_, (.slice r1 m.ms.length c3), by rw [hp], by rw [hp]; exact .nil _, by rw [hp]; exact .nil _, by rw [hp]; exact (hs.out.st CF)⟩⟩, CF⟩
  · have n3 : W0.heap.size ≠ w.heap.size + 1 := by omega
    have n5 : w.heap.size < W0.heap.size := by omega
    have n6 : w.heap.size + 1 < W0.heap.size := by omega
    have n7 : W0.heap.size ≠ w.heap.size := by omega
    have n4 : w.heap.size + 1 ≠ W0.heap.size := by omega
    have b0 : bits BinOp.and IntKind.i64 0 1 = 0 := by decide
    have b1 : bits BinOp.and IntKind.i64 0 2 = 0 := by decide
    have b2 : bits BinOp.and IntKind.i64 0 4 = 0 := by decide
    have b3 : bits BinOp.and IntKind.i64 0 8 = 0 := by decide
    have b4 : bits BinOp.and IntKind.i64 0 16 = 0 := by decide
    have b5 : bits BinOp.and IntKind.i64 0 32 = 0 := by decide
    have b6 : bits BinOp.and IntKind.i64 0 64 = 0 := by decide
    go_wp2_with fail
    have CF := (chg10 (b := w.heap.size + 1) hC.out (by omega) (.int .i64 m.k) (.int .i64 m.f) (.int .i64 m.t) (.int .i64 0) (.int .i64 0) (.string ⟨#[]⟩) (.int .i64 0) nil_ nil_ nil_).alloc (.cells #[(.int .i64 m.k), (.int .i64 m.f), (.int .i64 m.t), (.int .i64 0), (.int .i64 0), (.string ⟨#[]⟩), (.int .i64 0), nil_, nil_, nil_] 31)
    have hp : plain m = ⟨m.k, m.f, m.t, 0, 0, ⟨#[]⟩, 0, [], [], []⟩ := by
      unfold plain; rw [HH.out]; simp [hasB, Nat.testBit]
    exact back_ms rfl (mgx ⟨m.k, m.f, m.t, 0, 0, ⟨#[]⟩, 0, [], [], []⟩ nil_ nil_ nil_) rfl ((ten_set (x := msz) B2.out _ _ _ _ _ _ _ _ _ _).alloc _) rfl ⟨⟨_, rfl, ⟨nil_, nil_, nil_, by rw [hp], by rw [hp]; exact .nil _, by rw [hp]; exact .nil _, by rw [hp]; exact .nil _⟩⟩, CF⟩
theorem light_any {w : World} {A : Nat → Prop} (m : Mg) (a b : Int) (x : Ms) (hx : MR w A m x) : Calls Try.prog 16 #[.agg #[.int .i64 a, .int .i64 b, .int .i64 x.a0, .int .i64 x.a1, .int .i64 x.a2, .int .i64 x.a3, .int .i64 x.a4, .string x.key, .int .i64 x.a6, x.e, x.d, x.m]] w fun r w' => r = .returned (.bool (decide (m.es.length ≤ 3) && decide (m.ds.length ≤ 3) && decide (m.ms.length ≤ 10))) ∧ Chg NoB w w' := by
  obtain ⟨e, d, s, rfl, he, hd, hs⟩ := hx
  obtain ⟨p1, c1, rfl, h1, h2, _⟩ := ens_form he
  obtain ⟨q1, c2, rfl, h3, h4, _⟩ := dgs_form hd
  obtain ⟨r1, c3, rfl, h5, h6, _⟩ := prs_form hs
  unfold maxLen at h2 h4 h6
  clear he hd hs
  obtain ⟨x, hx⟩ : ∃ x, decide (m.es.length ≤ 3) = x := ⟨_, rfl⟩
  obtain ⟨y, hy⟩ : ∃ y, decide (m.ds.length ≤ 3) = y := ⟨_, rfl⟩
  obtain ⟨z, hz⟩ : ∃ z, decide (m.ms.length ≤ 10) = z := ⟨_, rfl⟩
  rw [hx, hy, hz]
  have hx' : decide ((m.es.length : Int) ≤ 3) = x := by rw [← hx]; exact decide_eq_decide.2 (by omega)
  have hy' : decide ((m.ds.length : Int) ≤ 3) = y := by rw [← hy]; exact decide_eq_decide.2 (by omega)
  have hz' : decide ((m.ms.length : Int) ≤ 10) = z := by rw [← hz]; exact decide_eq_decide.2 (by omega)
  clear hx hy hz
  cases x <;> cases y <;> cases z
  all_goals
    go_enter Try.func16, Try.ntmps16
    go_wp2_with fail
    go_ret
    exact ⟨rfl, Chg.al _ _⟩
end Go.Proofs.Ytcefaohdikongaa

/- What a node's tick does where its store and its operations are empty. No statement is proved here. -/
import Derived.Test.YtoefffjhjmjhfaaGreatIter
import Derived.Test.YtoefffjhjmjhfaaGreatNodeD
namespace Go.Proofs.YtoefffjhjmjhfaaGreat
open Go.RowKit Go.Proofs.YtoefffjhjmjhfaaGreatW.PrintLast
attribute [local go_sem] max2_mx min2_mn max_two_ min_two_
set_option maxRecDepth 100000

theorem map_lt {w : World} {b : Nat} {o : Obj} (h : w.heap[b]? = some o) : b < w.heap.size := by
  rcases Nat.lt_or_ge b w.heap.size with h1 | h1
  · exact h1
  · rw [Array.getElem?_eq_none h1] at h; cases h
/-- A coordinator without operations: a tick does nothing. -/
theorem coTick_none {w : World} {g m : Nat} {wt last : Int} {s : Value} (hB : Blk w g 133 (coc wt last m s)) (hM : w.heap[m]? = some (.map #[] 0)) :
    Calls Tryz.prog 22 #[.pointer (some ⟨g, 0, none⟩)] w fun e w' => e = .returned (.int .i64 0) ∧ Chg NoB w w' := by
  have c2 := hB.cell 2
  have HM := Lib.hid hM
  clear hB hM
  go_enter Tryz.func22, Tryz.ntmps22
  go_wp2_with fail
  refine (keys_int64 _ _).mono ?_
  rintro e w1 ⟨rfl, rfl⟩
  go_wp2_with fail
  refine (sorted_none_int64 HM.out).mono ?_
  rintro e w2 ⟨rfl, hC⟩
  have HC := Lib.hid ((Chg.al w _).trans hC)
  clear hC
  go_wp2_with fail
  go_loopw [3, 15] (fun n i wr => n = .int .i64 0 ∧ i = .int .i64 0 ∧ wr = w2) (fun _ _ _ => 0)
  case atStart => exact ⟨rfl, rfl, rfl⟩
  case round =>
    obtain ⟨rfl, rfl, rfl⟩ := hrel
    go_wp2_with fail
    go_ret
    exact ⟨rfl, HC.out⟩
theorem tbAll_none {w : World} {g m : Nat} (hB : Blk w g 199 #[.map (some m)]) (hM : w.heap[m]? = some (.map #[] 0)) :
    Calls Tryz.prog 177 #[.pointer (some ⟨g, 0, none⟩)] w fun e w' => e = .returned (.slice none 0 0) ∧ Chg NoB w w' := by
  have c0 := hB.cell 0
  have HM := Lib.hid hM
  clear hB hM
  go_enter Tryz.func177, Tryz.ntmps177
  go_wp2_with fail
  refine (keys_string _ _).mono ?_
  rintro e w1 ⟨rfl, rfl⟩
  go_wp2_with fail
  refine (sorted_none_string HM.out).mono ?_
  rintro e w2 ⟨rfl, hC⟩
  have HC := Lib.hid ((Chg.al w _).trans hC)
  clear hC
  go_wp2_with fail
  go_loopw [3, 15] (fun n i wr => n = .slice none 0 0 ∧ i = .int .i64 0 ∧ wr = w2) (fun _ _ _ => 0)
  case atStart => exact ⟨rfl, rfl, rfl⟩
  case round =>
    obtain ⟨rfl, rfl, rfl⟩ := hrel
    go_wp2_with fail
    go_ret
    exact ⟨rfl, HC.out⟩
theorem idxE_none (f : Value) (w : World) : Calls Tryz.prog 176 #[.slice none 0 0, f] w fun e w' => e = .returned (.int .i64 (-1)) ∧ w' = w := by
  go_enter Tryz.func176, Tryz.ntmps176
  go_wp2_with fail
  obtain ⟨wo, rfl⟩ : ∃ wo : World, wo = w := ⟨_, rfl⟩
  go_loopw [8] (fun i wr => i = .int .i64 0 ∧ wr = wo) (fun _ _ => 0)
  case atStart => exact ⟨rfl, rfl⟩
  case round =>
    obtain ⟨rfl, rfl⟩ := hrel
    go_wp2_with fail
    go_ret
    exact ⟨rfl, rfl⟩
theorem delE_none (f : Value) (w : World) : Calls Tryz.prog 114 #[.slice none 0 0, f] w fun e w' => e = .returned (.slice none 0 0) ∧ w' = w := by
  go_enter Tryz.func114, Tryz.ntmps114
  go_wp2_with fail
  refine (idxE_none _ _).mono ?_
  rintro e w1 ⟨rfl, rfl⟩
  go_wp2_with fail
  go_ret
  exact ⟨rfl, rfl⟩
theorem tbBucket_none {w : World} {g m : Nat} (hB : Blk w g 199 #[.map (some m)]) (hM : w.heap[m]? = some (.map #[] 0)) (b : Int) :
    Calls Tryz.prog 117 #[.pointer (some ⟨g, 0, none⟩), .int .i64 b] w fun e w' => e = .returned (.slice none 0 0) ∧ Chg NoB w w' := by
  have HB := Lib.hid hB
  have HM := Lib.hid hM
  clear hB hM
  go_enter Tryz.func117, Tryz.ntmps117
  go_wp2_with fail
  have hal := Chg.al w (.cells #[.int .i64 b] 3)
  have hB := HB.out.st hal
  have hM := (hal.block m (map_lt HM.out) id).trans HM.out
  have HC := Lib.hid hal
  clear hal
  generalize w.alloc (Obj.cells _ 3) = W at *
  refine (tbAll_none hB hM).mono ?_
  rintro e w1 ⟨rfl, hC⟩
  have HC1 := Lib.hid (HC.out.trans hC)
  clear hC hB hM
  go_wp2_with fail
  refine (delE_none _ _).mono ?_
  rintro e w2 ⟨rfl, hw⟩
  subst hw
  go_wp2_with fail
  go_ret
  exact ⟨rfl, HC1.out⟩
section
variable {w : World} {st lg tb mp hs d : Nat} {most : Int}
theorem stBucket_none (h : SE w st lg tb mp hs d most) (b : Int) :
    Calls Tryz.prog 64 #[.pointer (some ⟨st, 0, none⟩), .int .i64 b] w fun e w' => e = .returned (.slice none 0 0) ∧ Chg NoB w w' := by
  have c1 := h.blk.cell 1
  have HS := Lib.hid h
  clear h
  go_enter Tryz.func64, Tryz.ntmps64
  go_wp2_with fail
  refine (tbBucket_none HS.out.tab HS.out.map b).mono ?_
  rintro e w1 ⟨rfl, hC⟩
  have HC := Lib.hid hC
  clear hC
  go_wp2_with fail
  go_ret
  exact ⟨rfl, HC.out⟩
theorem hsAll_none (hB : Blk w hs 201 #[.slice none 0 0]) :
    Calls Tryz.prog 116 #[.pointer (some ⟨hs, 0, none⟩)] w fun e w' => e = .returned (.slice none 0 0) ∧ Chg NoB w w' := by
  have c0 := hB.cell 0
  clear hB
  go_enter Tryz.func116, Tryz.ntmps116
  go_wp2_with fail
  obtain ⟨wo, rfl⟩ : ∃ wo : World, wo = w := ⟨_, rfl⟩
  go_loopw [3, 13] (fun n i wr => n = .slice none 0 0 ∧ i = .int .i64 0 ∧ wr = wo) (fun _ _ _ => 0)
  case atStart => exact ⟨rfl, rfl, rfl⟩
  case round =>
    obtain ⟨rfl, rfl, rfl⟩ := hrel
    go_wp2_with fail
    go_ret
    exact ⟨rfl, Chg.refl _ _⟩
theorem stHints_none (h : SE w st lg tb mp hs d most) :
    Calls Tryz.prog 63 #[.pointer (some ⟨st, 0, none⟩)] w fun e w' => e = .returned (.slice none 0 0) ∧ Chg NoB w w' := by
  have c2 := h.blk.cell 2
  have HS := Lib.hid h
  clear h
  go_enter Tryz.func63, Tryz.ntmps63
  go_wp2_with fail
  refine (hsAll_none HS.out.hnt).mono ?_
  rintro e w1 ⟨rfl, hC⟩
  have HC := Lib.hid hC
  clear hC
  go_wp2_with fail
  go_ret
  exact ⟨rfl, HC.out⟩
theorem dgOf_none (w : World) : Calls Tryz.prog 61 #[.slice none 0 0] w fun e w' => e = .returned (.slice none 0 0) ∧ w' = w := by
  go_enter Tryz.func61, Tryz.ntmps61
  go_wp2_with fail
  obtain ⟨wo, rfl⟩ : ∃ wo : World, wo = w := ⟨_, rfl⟩
  go_loopw [3, 8] (fun n i wr => n = .slice none 0 0 ∧ i = .int .i64 0 ∧ wr = wo) (fun _ _ _ => 0)
  case atStart => exact ⟨rfl, rfl, rfl⟩
  case round =>
    obtain ⟨rfl, rfl, rfl⟩ := hrel
    go_wp2_with fail
    go_ret
    exact ⟨rfl, rfl⟩
end
section
variable {w : World} {n st rg v bg qg op : Nat} {c : Cg} {id_ ticks sent : Int} {out : Value} {lg tb mp hs d : Nat} {most : Int}
theorem both_none (hN : Blk w n 75 (ndc c id_ st rg v bg qg op ticks sent out)) (hS : SE w st lg tb mp hs d most) (a b : Int) :
    Calls Tryz.prog 62 #[.pointer (some ⟨n, 0, none⟩), .int .i64 a, .int .i64 b] w fun e w' => e = .returned (.slice none 0 0) ∧ Chg NoB w w' := by
  have HN := Lib.hid hN
  have HS := Lib.hid hS
  clear hN hS
  go_enter Tryz.func62, Tryz.ntmps62
  have hC := (Chg.al w (.cells #[.pointer (some ⟨n, 0, none⟩)] 27)).trans (Chg.al _ (.cells #[.int .i64 a] 3))
  have c10 := (HN.out.st hC).cell 10
  go_wp2_with fail
  have HS1 := Lib.hid (HS.out.st hC)
  have HC := Lib.hid hC
  clear hC c10
  generalize (w.alloc (Obj.cells _ 27)).alloc (Obj.cells _ 3) = W at *
  refine (stBucket_none HS1.out b).mono ?_
  rintro e w1 ⟨rfl, hC⟩
  have HC1 := Lib.hid (HC.out.trans hC)
  clear hC
  go_wp2_with fail
  refine (delE_none _ _).mono ?_
  rintro e w2 ⟨rfl, hw⟩
  subst hw
  go_wp2_with fail
  go_ret
  exact ⟨rfl, HC1.out⟩
theorem replay_none (hN : Blk w n 75 (ndc c id_ st rg v bg qg op ticks sent out)) (hS : SE w st lg tb mp hs d most) :
    Calls Tryz.prog 29 #[.pointer (some ⟨n, 0, none⟩)] w fun e w' => e = .returned (.tuple #[]) ∧ Chg NoB w w' := by
  have HS := Lib.hid hS
  have c10 := hN.cell 10
  clear hN hS
  go_enter Tryz.func29, Tryz.ntmps29
  go_wp2_with fail
  refine (stHints_none HS.out).mono ?_
  rintro e w1 ⟨rfl, hC⟩
  have HC := Lib.hid hC
  clear hC
  go_wp2_with fail
  go_loopw [10] (fun i wr => i = .int .i64 0 ∧ wr = w1) (fun _ _ => 0)
  case atStart => exact ⟨rfl, rfl⟩
  case round =>
    obtain ⟨rfl, rfl⟩ := hrel
    go_wp2_with fail
    first | go_end0 | refine bodyPost_ret (results_none rfl _ _ _) rfl ?_
    exact ⟨rfl, HC.out⟩
theorem reap_none (hN : Blk w n 75 (ndc c id_ st rg v bg qg op ticks sent out)) (hS : SE w st lg tb mp hs d most) (b : Int) :
    Calls Tryz.prog 30 #[.pointer (some ⟨n, 0, none⟩), .int .i64 b] w fun e w' => e = .returned (.tuple #[]) ∧ Chg NoB w w' := by
  have HS := Lib.hid hS
  have c10 := hN.cell 10
  clear hN hS
  go_enter Tryz.func30, Tryz.ntmps30
  go_wp2_with fail
  refine (stBucket_none HS.out b).mono ?_
  rintro e w1 ⟨rfl, hC⟩
  have HC := Lib.hid hC
  clear hC
  go_wp2_with fail
  go_loopw [13] (fun i wr => i = .int .i64 0 ∧ wr = w1) (fun _ _ => 0)
  case atStart => exact ⟨rfl, rfl⟩
  case round =>
    obtain ⟨rfl, rfl⟩ := hrel
    go_wp2_with fail
    first | go_end0 | refine bodyPost_ret (results_none rfl _ _ _) rfl ?_
    exact ⟨rfl, HC.out⟩
end
end Go.Proofs.YtoefffjhjmjhfaaGreat

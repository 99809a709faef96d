/- Node laws: the config, the reference's plans, small functions of package node. No statement is proved here. A node's parts, new: disk, log, table, hints, store, ring, operations. No statement is proved here. A node's store, opened on an empty disk; ring, operations, new. No statement is proved here. -/
import Derived.Test.YtoefffjhjmjhfaaGreatPkData
import Derived.Test.YtoefffjhjmjhfaaGreatQuiet
import Derived.Test.YtoefffjhjmjhfaaGreatPkBytes
import Derived.WideMake
namespace Go.Proofs.YtoefffjhjmjhfaaGreat
open Go.RowKit Go.Proofs.YtoefffjhjmjhfaaGreatW.PrintLast
attribute [local irreducible] wpQuiet
set_option maxRecDepth 100000

/-- A config's numbers. -/
structure Cg where
  n : Int
  o : Int
  r : Int
  w : Int
  wait : Int
  q : Int
  rate : Int
  burst : Int
  disk : Int
abbrev cgc (c : Cg) : Array Value := #[.int .i64 c.n, .int .i64 c.o, .int .i64 c.r, .int .i64 c.w, .int .i64 c.wait, .int .i64 c.q, .int .i64 c.rate, .int .i64 c.burst, .int .i64 c.disk]
abbrev cgv (c : Cg) : Value := .agg (cgc c)
theorem infCg : (Tryz.prog.info? 23).map (·.size) = some 9 := by kernel_rfl
theorem nwithin_any (n a b : Int) (w : World) : Calls Tryz.prog 15 #[.int .i64 n, .int .i64 a, .int .i64 b] w fun e w' => e = .returned (.bool (decide (a ≤ n) && decide (n ≤ b))) ∧ w' = w := by
  obtain ⟨x, hx⟩ : ∃ x, decide (n ≥ a) = x := ⟨_, rfl⟩
  obtain ⟨y, hy⟩ : ∃ y, decide (n ≤ b) = y := ⟨_, rfl⟩
  rw [show decide (a ≤ n) = x from hx, hy]
  cases x <;> cases y
  all_goals
    go_enter Tryz.func15, Tryz.ntmps15
    go_wp2
    go_ret
    exact ⟨rfl, rfl⟩
/-- A config that may be. -/
structure Cok (c : Cg) : Prop where
  n : 1 ≤ c.n ∧ c.n ≤ 8
  o : 1 ≤ c.o ∧ c.o ≤ c.n
  r : 1 ≤ c.r ∧ c.r ≤ c.o
  w : 1 ≤ c.w ∧ c.w ≤ c.o
  wait : 1 ≤ c.wait ∧ c.wait ≤ 1000
  q : 1 ≤ c.q ∧ c.q ≤ 1000
  rate : 1 ≤ c.rate ∧ c.rate ≤ 1000
  burst : 1 ≤ c.burst ∧ c.burst ≤ 1000
  disk : 0 ≤ c.disk ∧ c.disk ≤ 1048576
theorem within_yes {n a b : Int} (h : a ≤ n ∧ n ≤ b) (w : World) : Calls Tryz.prog 15 #[.int .i64 n, .int .i64 a, .int .i64 b] w fun e w' => e = .returned (.bool true) ∧ w' = w :=
  (nwithin_any n a b w).mono fun e w' ⟨he, hw⟩ => ⟨by rw [he, decide_eq_true h.1, decide_eq_true h.2]; rfl, hw⟩
set_option maxHeartbeats 1000000 in
theorem nmay_any {c : Cg} (h : Cok c) (w : World) : Calls Tryz.prog 14 #[cgv c] w fun e w' => e = .returned (.bool true) ∧ Chg NoB w w' := by
  have H := Lib.hid h
  clear h
  go_enter Tryz.func14, Tryz.ntmps14
  go_wp2_with fail
  have B := Blk.new w 23 (cgc c)
  have HC := Lib.hid (Chg.al w (.cells (cgc c) 23))
  generalize w.alloc (Obj.cells _ 23) = W at *
  obtain ⟨c0, c1, c2, c3, c4, c5, c6, c7, c8⟩ := cells9 B
  clear B
  refine (within_yes H.out.n _).mono ?_
  rintro e Wn ⟨rfl, hwn⟩
  subst hwn
  go_wp2_with fail
  refine (within_yes H.out.o _).mono ?_
  rintro e Wn ⟨rfl, hwn⟩
  subst hwn
  go_wp2_with fail
  refine (within_yes H.out.r _).mono ?_
  rintro e Wn ⟨rfl, hwn⟩
  subst hwn
  go_wp2_with fail
  refine (within_yes H.out.w _).mono ?_
  rintro e Wn ⟨rfl, hwn⟩
  subst hwn
  go_wp2_with fail
  refine (within_yes H.out.wait _).mono ?_
  rintro e Wn ⟨rfl, hwn⟩
  subst hwn
  go_wp2_with fail
  refine (within_yes H.out.q _).mono ?_
  rintro e Wn ⟨rfl, hwn⟩
  subst hwn
  go_wp2_with fail
  refine (within_yes H.out.rate _).mono ?_
  rintro e Wn ⟨rfl, hwn⟩
  subst hwn
  go_wp2_with fail
  refine (within_yes H.out.burst _).mono ?_
  rintro e Wn ⟨rfl, hwn⟩
  subst hwn
  go_wp2_with fail
  refine (within_yes H.out.disk _).mono ?_
  rintro e Wn ⟨rfl, hwn⟩
  subst hwn
  go_wp2_with fail
  go_ret
  exact ⟨rfl, HC.out⟩
end Go.Proofs.YtoefffjhjmjhfaaGreat
namespace Go.Proofs.YtoefffjhjmjhfaaGreat
open Go.RowKit Go.Proofs.YtoefffjhjmjhfaaGreatW.PrintLast
attribute [local go_sem] max2_mx min2_mn max_two_ min_two_ run_makeMap_plain
set_option maxRecDepth 100000

/-- Block g is a disk. -/
structure DA (w : World) (g : Nat) (most : Int) (zs : List Int) (sure : Int) (s : Value) : Prop where
  blk : Blk w g 77 #[.int .i64 most, s, .int .i64 sure]
  own : w.ownsRow (g + 1) 5 1 s zs.length (zs.map (Value.int .u8))
theorem diskNew_any (n : Int) (w : World) : Calls Tryz.prog 7 #[.int .i64 n] w fun e w' => e = .returned (.pointer (some ⟨w.heap.size, 0, none⟩)) ∧ DA w' w.heap.size (mx 0 (mn n 1048576)) [] 0 (.slice none 0 0) ∧ Chg NoB w w' ∧ w'.heap.size = w.heap.size + 1 := by
  go_enter Tryz.func7, Tryz.ntmps7
  go_wp2_with fail
  go_ret
  exact ⟨rfl, ⟨Blk.new _ _ _, ⟨rfl, .inl ⟨rfl, rfl⟩⟩⟩, Chg.al _ _, by simp⟩
theorem clone_none (w : World) : Calls Tryz.prog 133 #[.slice none 0 0] w fun e w' => e = .returned (.slice none 0 0) ∧ w' = w := by
  have he := Lib.run_eql_slice_nil (P := Tryz.prog) w 47 5 none 0 0 0 0 Tryz.underlying47
  simp only [Option.isNone] at he
  go_enter Tryz.func133, Tryz.ntmps133
  go_wp2
  go_ret
  exact ⟨rfl, rfl⟩
section
variable {w w' : World} {g : Nat} {most sure : Int}
theorem dbytes_none (h : DA w g most [] sure (.slice none 0 0)) : Calls Tryz.prog 93 #[.pointer (some ⟨g, 0, none⟩)] w fun e w' => e = .returned (.slice none 0 0) ∧ w' = w := by
  have c1 := h.blk.cell 1
  clear h
  go_enter Tryz.func93, Tryz.ntmps93
  go_wp2_with fail
  refine (clone_none _).mono ?_
  rintro e w1 ⟨rfl, rfl⟩
  go_wp2_with fail
  go_ret
  exact ⟨rfl, rfl⟩
theorem dsize_none (h : DA w g most [] sure (.slice none 0 0)) : Calls Tryz.prog 94 #[.pointer (some ⟨g, 0, none⟩)] w fun e w' => e = .returned (.int .i64 0) ∧ w' = w := by
  have c1 := h.blk.cell 1
  clear h
  go_enter Tryz.func94, Tryz.ntmps94
  go_wp2
  go_ret
  exact ⟨rfl, rfl⟩
/-- A table of sums that is not made yet. -/
abbrev lzc : Array Value := #[.int .i64 256, .func (.func 257) #[] #[], .int .u32 0, .int .i32 0, .int .u32 0, .int .i64 0, .slice none 0 0]
theorem lpoly_any (w : World) : Calls Tryz.prog 208 #[] w fun e w' => e = .returned (.pointer (some ⟨w.heap.size, 0, none⟩)) ∧ w' = w.alloc (.cells lzc 379) := by
  go_enter Tryz.func208, Tryz.ntmps208
  go_wp2_with (go_in)
  go_ret
  exact ⟨rfl, rfl⟩
theorem infSums : (Tryz.prog.info? 259).map (·.size) = some 1 := by kernel_rfl
/-- The sums of a call: a table in a block of its own. -/
theorem fpoly_any (w : World) : Calls Tryz.prog 157 #[] w fun e w' => (∃ b, e = .returned (.agg #[.pointer (some ⟨b, 0, none⟩)]) ∧ Blk w' b 379 lzc ∧ w.heap.size ≤ b) ∧ Chg NoB w w' := by
  go_enter Tryz.func157, Tryz.ntmps157
  go_wp2_with fail
  have B0 := Blk.new w 259 #[.pointer none]
  have hC := Chg.al w (.cells #[.pointer none] 259)
  have hz : w.heap.size + 1 ≤ (w.alloc (.cells #[.pointer none] 259)).heap.size := by simp
  generalize w.alloc (Obj.cells _ 259) = W at *
  refine (lpoly_any _).mono ?_
  rintro e w1 ⟨rfl, rfl⟩
  have B1 := B0.alloc (.cells lzc 379)
  have B2 := Blk.new W 379 lzc
  replace hC := hC.alloc (.cells lzc 379)
  have hl : W.heap.size < (W.alloc (.cells lzc 379)).heap.size := by simp
  obtain ⟨wb, hwb⟩ : ∃ b, W.heap.size = b := ⟨_, rfl⟩
  rw [hwb] at B2 hl hz ⊢
  generalize W.alloc (Obj.cells _ 379) = W2 at *
  have c0 := B1.cell 0
  have f0 := B1.frozen 0
  go_wp2_with fail
  exact back_row rfl rfl (B1.set_ 0 (.pointer (some ⟨wb, 0, none⟩))) Tryz.underlying259 rfl infSums rfl ⟨⟨wb, rfl, B2.far (p := ⟨w.heap.size, 0, none⟩) (by show wb ≠ w.heap.size; omega) _, by omega⟩, hC.sc (Nat.le_refl _) _⟩
theorem frameAll_none (w : World) : Calls Tryz.prog 92 #[.slice none 0 0] w fun e w' => e = .returned (.tuple #[.slice none 0 0, .int .i64 0, .int .i64 0]) ∧ Chg NoB w w' := by
  go_enter Tryz.func92, Tryz.ntmps92
  go_wp2_with fail
  refine (fpoly_any _).mono ?_
  rintro e w1 ⟨⟨b, rfl, hB, hb⟩, hC⟩
  have HC := Lib.hid (hC.trans (Chg.al w1 (.cells #[.pointer (some ⟨b, 0, none⟩)] 259)))
  clear hB hb hC
  go_wp2_with fail
  generalize w1.alloc (Obj.cells _ 259) = W at *
  go_loopw [5, 7] (fun l i wr => l = .slice none 0 0 ∧ i = .int .i64 0 ∧ wr = W) (fun _ _ _ => 0)
  case atStart => exact ⟨rfl, rfl, rfl⟩
  case round =>
    obtain ⟨rfl, rfl, rfl⟩ := hrel
    go_wp2_with fail
    go_ret3
    exact ⟨rfl, HC.out⟩
/-- Block l is a log over the disk d, with n records. -/
abbrev LogB (w : World) (l d : Nat) (n : Int) : Prop := Blk w l 196 #[.pointer (some ⟨d, 0, none⟩), .int .i64 n]
theorem walOpen_none (h : DA w g most [] 0 (.slice none 0 0)) : Calls Tryz.prog 41 #[.pointer (some ⟨g, 0, none⟩)] w fun e w' => (∃ l, e = .returned (.tuple #[.pointer (some ⟨l, 0, none⟩), .slice none 0 0, .int .i64 0]) ∧ LogB w' l g 0 ∧ w.heap.size ≤ l) ∧ Chg NoB w w' := by
  have HD := Lib.hid h
  clear h
  go_enter Tryz.func41, Tryz.ntmps41
  go_wp2_with fail
  refine (dbytes_none HD.out).mono ?_
  rintro e w1 ⟨rfl, hw⟩
  subst hw
  go_wp2_with fail
  refine (frameAll_none _).mono ?_
  rintro e w2 ⟨rfl, hC⟩
  have HD2 : Hid (DA w2 g most [] 0 (.slice none 0 0)) := Lib.hid ⟨HD.out.blk.st hC, own_chg HD.out.own hC fun _ _ => id⟩
  have HC := Lib.hid hC
  clear hC
  go_wp2_with fail
  refine (dsize_none HD2.out).mono ?_
  rintro e w3 ⟨rfl, hw⟩
  subst hw
  go_wp2_with fail
  go_ret3
  exact ⟨⟨_, rfl, Blk.new _ _ _, HC.out.size⟩, HC.out.alloc _⟩
end
/-- A new table, new hints. -/
theorem tableNew_any (w : World) : Calls Tryz.prog 42 #[] w fun e w' => e = .returned (.pointer (some ⟨w.heap.size + 1, 0, none⟩)) ∧ w' = (w.alloc (.map #[] 0)).alloc (.cells #[.map (some w.heap.size)] 199) := by
  go_enter Tryz.func42, Tryz.ntmps42
  go_wp2_with fail
  go_ret
  exact ⟨rfl, rfl⟩
theorem hintsNew_any (w : World) : Calls Tryz.prog 43 #[] w fun e w' => e = .returned (.pointer (some ⟨w.heap.size, 0, none⟩)) ∧ w' = w.alloc (.cells #[.slice none 0 0] 201) := by
  go_enter Tryz.func43, Tryz.ntmps43
  go_wp2_with fail
  go_ret
  exact ⟨rfl, rfl⟩
end Go.Proofs.YtoefffjhjmjhfaaGreat
namespace Go.Proofs.YtoefffjhjmjhfaaGreat
open Go.RowKit Go.Proofs.YtoefffjhjmjhfaaGreatW.PrintLast
attribute [local go_sem] max2_mx min2_mn max_two_ min_two_ run_makeMap_plain
set_option maxRecDepth 100000

/-- Block st is a store without keys and hints: its log, its table, the table's map, its hints. -/
structure SE (w : World) (st lg tb mp hs d : Nat) (most : Int) : Prop where
  blk : Blk w st 103 #[.pointer (some ⟨lg, 0, none⟩), .pointer (some ⟨tb, 0, none⟩), .pointer (some ⟨hs, 0, none⟩)]
  log : LogB w lg d 0
  tab : Blk w tb 199 #[.map (some mp)]
  map : w.heap[mp]? = some (.map #[] 0)
  hnt : Blk w hs 201 #[.slice none 0 0]
  dsk : DA w d most [] 0 (.slice none 0 0)
theorem SE.st {w w' : World} {st lg tb mp hs d : Nat} {most : Int} (h : SE w st lg tb mp hs d most) (hC : Chg NoB w w') : SE w' st lg tb mp hs d most :=
  ⟨h.blk.st hC, h.log.st hC, h.tab.st hC, (hC.block mp (by
    rcases Nat.lt_or_ge mp w.heap.size with h1 | h1
    · exact h1
    · have := h.map; rw [Array.getElem?_eq_none h1] at this; cases this) id).trans h.map, h.hnt.st hC, ⟨h.dsk.blk.st hC, own_chg h.dsk.own hC fun _ _ => id⟩⟩
set_option maxHeartbeats 1000000 in
theorem localOpen_none {w : World} {g : Nat} {most : Int} (h : DA w g most [] 0 (.slice none 0 0)) : Calls Tryz.prog 16 #[.pointer (some ⟨g, 0, none⟩)] w fun e w' => (∃ st lg tb mp hs, e = .returned (.tuple #[.pointer (some ⟨st, 0, none⟩), .int .i64 0]) ∧ SE w' st lg tb mp hs g most ∧ w.heap.size ≤ lg ∧ lg < mp ∧ mp < tb ∧ tb < hs ∧ hs < st) ∧ Chg NoB w w' := by
  have HD := Lib.hid h
  clear h
  go_enter Tryz.func16, Tryz.ntmps16
  go_wp2_with fail
  refine (walOpen_none HD.out).mono ?_
  rintro e w1 ⟨⟨l, rfl, hL, hl⟩, hC⟩
  have HD1 : Hid (DA w1 g most [] 0 (.slice none 0 0)) := Lib.hid ⟨HD.out.blk.st hC, own_chg HD.out.own hC fun _ _ => id⟩
  have HL := Lib.hid hL
  have HC := Lib.hid hC
  have hlw := hL.lt
  clear hL hC
  go_wp2_with fail
  refine (tableNew_any _).mono ?_
  rintro e w2 ⟨rfl, rfl⟩
  go_wp2_with fail
  refine (hintsNew_any _).mono ?_
  rintro e w3 ⟨rfl, rfl⟩
  have hC3 := ((Chg.al w1 (.map #[] 0)).trans (Chg.al _ (.cells #[.map (some w1.heap.size)] 199))).trans (Chg.al _ (.cells #[.slice none 0 0] 201))
  have hs1 : ((w1.alloc (.map #[] 0)).alloc (.cells #[.map (some w1.heap.size)] 199)).heap.size = w1.heap.size + 2 := by simp
  have hs2 : (((w1.alloc (.map #[] 0)).alloc (.cells #[.map (some w1.heap.size)] 199)).alloc (.cells #[.slice none 0 0] 201)).heap.size = w1.heap.size + 3 := by simp
  have B1 := (Blk.new_ (k := w1.heap.size + 1) (w1.alloc (.map #[] 0)) 199 #[.map (some w1.heap.size)] (by simp)).alloc (.cells #[.slice none 0 0] 201)
  have B2 := Blk.new_ (k := w1.heap.size + 2) ((w1.alloc (.map #[] 0)).alloc (.cells #[.map (some w1.heap.size)] 199)) 201 #[.slice none 0 0] (by simp)
  have BM : (((w1.alloc (.map #[] 0)).alloc (.cells #[.map (some w1.heap.size)] 199)).alloc (.cells #[.slice none 0 0] 201)).heap[w1.heap.size]? = some (.map #[] 0) :=
    (((Chg.al (w1.alloc (.map #[] 0)) (.cells #[.map (some w1.heap.size)] 199)).trans (Chg.al _ (.cells #[.slice none 0 0] 201))).block w1.heap.size (by simp) id).trans (heap_alloc_new w1 _)
  rw [hs1]
  generalize ((w1.alloc (.map #[] 0)).alloc (.cells #[.map (some w1.heap.size)] 199)).alloc (.cells #[.slice none 0 0] 201) = W at *
  have HB1 := Lib.hid B1
  have HB2 := Lib.hid B2
  have HBM := Lib.hid BM
  have HC3 := Lib.hid hC3
  have HD3 : Hid (DA W g most [] 0 (.slice none 0 0)) := Lib.hid ⟨HD1.out.blk.st hC3, own_chg HD1.out.own hC3 fun _ _ => id⟩
  have HL3 := Lib.hid (HL.out.st hC3)
  clear B1 B2 BM hC3 hs1
  go_wp2_with fail
  obtain ⟨wk, hwk⟩ : ∃ k, w1.heap.size = k := ⟨_, rfl⟩
  rw [hwk] at HB1 HB2 HBM ⊢
  rw [hwk] at hs2
  have hC4 := Chg.al W (.cells #[.pointer (some ⟨l, 0, none⟩), .pointer (some ⟨wk + 1, 0, none⟩), .pointer (some ⟨wk + 2, 0, none⟩)] 103)
  have HS : Hid (SE (W.alloc (.cells #[.pointer (some ⟨l, 0, none⟩), .pointer (some ⟨wk + 1, 0, none⟩), .pointer (some ⟨wk + 2, 0, none⟩)] 103)) (wk + 3) l (wk + 1) wk (wk + 2) g most) := Lib.hid
    ⟨Blk.new_ _ _ _ hs2.symm, HL3.out.st hC4, HB1.out.st hC4, (hC4.block wk (by omega) id).trans HBM.out, HB2.out.st hC4, ⟨HD3.out.blk.st hC4, own_chg HD3.out.own hC4 fun _ _ => id⟩⟩
  have HCC := Lib.hid ((HC.out.trans HC3.out).trans hC4)
  clear hC4
  have hlk : l < wk := by omega
  have hlg : w.heap.size ≤ l := hl
  generalize W.alloc (Obj.cells _ 103) = W5 at *
  go_loopw [26] (fun i wr => i = .int .i64 0 ∧ wr = W5) (fun _ _ => 0)
  case atStart => exact ⟨rfl, rfl⟩
  case round =>
    obtain ⟨rfl, rfl⟩ := hrel
    go_wp2_with fail
    go_ret2
    exact ⟨⟨_, _, _, _, _, rfl, HS.out, hlg, hlk, by omega, by omega, by omega⟩, HCC.out⟩
end Go.Proofs.YtoefffjhjmjhfaaGreat

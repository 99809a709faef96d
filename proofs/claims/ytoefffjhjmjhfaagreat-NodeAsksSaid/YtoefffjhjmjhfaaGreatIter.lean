/- slices.Sorted(maps.Keys(m)) of a map without rows. No statement is proved here. -/
import Derived.Test.YtoefffjhjmjhfaaGreatShelf2
import Derived.Test.YtoefffjhjmjhfaaGreatShelf
import Derived.Test.YtoefffjhjmjhfaaGreatPkData
import Derived.Test.YtoefffjhjmjhfaaGreatVectorB
namespace Go.Proofs.YtoefffjhjmjhfaaGreat
open Go.RowKit Go.Maps Go.Shelf
set_option maxRecDepth 100000

theorem owns_empty {w : World} {P : Program} {k : TypeId} {b : Nat} (h : w.heap[b]? = some (.map #[] 0)) : w.ownsMap (H := Unit) P k (fun _ => none) b 0 (.map []) := by
  exact ⟨_, _, h, ⟨by simp, ⟨fun _ h => by simp at h, by simp, by simp⟩, fun _ h => by simp at h⟩, Nat.le_refl _, rfl⟩
theorem keys_int64 (mb : Option Nat) (W : World) : Calls Tryz.prog 49 #[.map mb] W fun e w' => e = .returned (.func (.func 109) #[] #[.pointer (some ⟨W.heap.size, 0, none⟩)]) ∧ w' = W.alloc (.cells #[.map mb] 131) :=
  callsIn_wide.1 (AnyZI.keys_in Tryz.keys49 Fence.wide 5 trivial rfl mb W)
theorem collect_none_int64 {b : Nat} {w : World} (h : w.heap[b]? = some (.map #[] 0)) : Calls Tryz.prog 107 #[.func (.func 109) #[] #[.pointer (some ⟨w.heap.size, 0, none⟩)]] (w.alloc (.cells #[.map (some b)] 131)) fun e w' => e = .returned (.slice none 0 0) ∧ Chg NoB (w.alloc (.cells #[.map (some b)] 131)) w' := by
  have hbl : b < w.heap.size := by
    rcases Nat.lt_or_ge b w.heap.size with h1 | h1
    · exact h1
    · rw [Array.getElem?_eq_none h1] at h; cases h
  have hown := owns_empty (P := Tryz.prog) (k := 2) (((Chg.al w (.cells #[.map (some b)] 131)).block b hbl id).trans h)
  have hs0 := AnyZI.keys_gives (ρ := Tryz.keys49_ren) { Tryz.keys49 with } Fence.wide 5 trivial rfl (by omega) w.heap.size b 0 _ (w.alloc (.cells #[.map (some b)] 131)) (by simp) (by simp) hown
  refine (callsIn_wide.1 (AnyZI.collect_in Tryz.collect107 Fence.wide 7 trivial trivial rfl (by omega) 109 #[.pointer (some ⟨w.heap.size, 0, none⟩)] trivial (enters_of Tryz.func109 (by kernel_rfl) rfl) _ 0 (by decide) (by decide) _ hs0)).mono ?_
  rintro e w' ⟨v, ss, rfl, hS, _, hn, hb⟩
  exact ⟨by rw [hn.2 (List.Perm.eq_nil hS)], Chg.of_below hb⟩
theorem ins_none_int64 (w : World) : Calls Tryz.prog 225 #[.slice none 0 0, .int .i64 0, .int .i64 0] w fun e w' => e = .returned (.tuple #[]) ∧ w' = w := by
  go_enter Tryz.func225, Tryz.ntmps225
  go_wp2_with fail
  obtain ⟨wo, rfl⟩ : ∃ wo : World, wo = w := ⟨_, rfl⟩
  go_loopw [6] (fun i wr => i = .int .i64 1 ∧ wr = wo) (fun _ _ => 0)
  case atStart => exact ⟨rfl, rfl⟩
  case round =>
    obtain ⟨rfl, rfl⟩ := hrel
    go_wp2_with fail
    go_end0
    exact ⟨rfl, rfl⟩
theorem pdq_none_int64 (w : World) : Calls Tryz.prog 173 #[.slice none 0 0, .int .i64 0, .int .i64 0, .int .i64 0] w fun e w' => e = .returned (.tuple #[]) ∧ w' = w := by
  go_enter Tryz.func173, Tryz.ntmps173
  go_wp2_with fail
  obtain ⟨wo, rfl⟩ : ∃ wo : World, wo = w := ⟨_, rfl⟩
  go_loopw [1, 2, 8] (fun a b i wr => a = .int .i64 0 ∧ b = .int .i64 0 ∧ i = .bool true ∧ wr = wo) (fun _ _ _ _ => 0)
  case atStart => exact ⟨rfl, rfl, rfl, rfl⟩
  case round =>
    obtain ⟨rfl, rfl, rfl, rfl⟩ := hrel
    go_wp2_with fail
    refine (ins_none_int64 _).mono ?_
    rintro e w1 ⟨rfl, rfl⟩
    go_wp2_with fail
    exact bodyPost_ret (results_none rfl _ _ _) rfl ⟨rfl, rfl⟩
theorem sort_none_int64 (w : World) : Calls Tryz.prog 108 #[.slice none 0 0] w fun e w' => e = .returned (.tuple #[]) ∧ w' = w := by
  have HB : Calls Tryz.prog 174 #[.int .u64 0] w _ := Tryz.bits_Len 0 w (by decide) (by decide)
  go_enter Tryz.func108, Tryz.ntmps108
  go_wp2_with fail
  refine HB.mono ?_
  rintro e w1 ⟨rfl, rfl⟩
  go_wp2_with fail
  refine (pdq_none_int64 _).mono ?_
  rintro e w2 ⟨rfl, rfl⟩
  go_wp2_with fail
  go_end0
  exact ⟨rfl, rfl⟩
theorem sorted_none_int64 {b : Nat} {w : World} (h : w.heap[b]? = some (.map #[] 0)) : Calls Tryz.prog 48 #[.func (.func 109) #[] #[.pointer (some ⟨w.heap.size, 0, none⟩)]] (w.alloc (.cells #[.map (some b)] 131)) fun e w' => e = .returned (.slice none 0 0) ∧ Chg NoB (w.alloc (.cells #[.map (some b)] 131)) w' := by
  have HC := Lib.hid (collect_none_int64 h)
  clear h
  go_enter Tryz.func48, Tryz.ntmps48
  go_wp2_with fail
  refine HC.out.mono ?_
  rintro e w1 ⟨rfl, hC⟩
  have HC1 := Lib.hid hC
  clear hC
  go_wp2_with fail
  refine (sort_none_int64 _).mono ?_
  rintro e w2 ⟨rfl, rfl⟩
  go_wp2_with fail
  go_ret
  exact ⟨rfl, HC1.out⟩
theorem keys_string (mb : Option Nat) (W : World) : Calls Tryz.prog 237 #[.map mb] W fun e w' => e = .returned (.func (.func 271) #[] #[.pointer (some ⟨W.heap.size, 0, none⟩)]) ∧ w' = W.alloc (.cells #[.map mb] 197) :=
  callsIn_wide.1 (AnyZ.keys_in Tryz.keys237 Fence.wide 5 trivial rfl mb W)
theorem collect_none_string {b : Nat} {w : World} (h : w.heap[b]? = some (.map #[] 0)) : Calls Tryz.prog 269 #[.func (.func 271) #[] #[.pointer (some ⟨w.heap.size, 0, none⟩)]] (w.alloc (.cells #[.map (some b)] 197)) fun e w' => e = .returned (.slice none 0 0) ∧ Chg NoB (w.alloc (.cells #[.map (some b)] 197)) w' := by
  have hbl : b < w.heap.size := by
    rcases Nat.lt_or_ge b w.heap.size with h1 | h1
    · exact h1
    · rw [Array.getElem?_eq_none h1] at h; cases h
  have hown := owns_empty (P := Tryz.prog) (k := 9) (((Chg.al w (.cells #[.map (some b)] 197)).block b hbl id).trans h)
  have hs0 := AnyZ.keys_gives (ρ := Tryz.keys237_ren) { Tryz.keys237 with } Fence.wide 5 trivial rfl (by omega) w.heap.size b 0 _ (w.alloc (.cells #[.map (some b)] 197)) (by simp) (by simp) hown
  refine (callsIn_wide.1 (AnyZ.collect_in Tryz.collect269 Fence.wide 7 trivial trivial rfl (by omega) 271 #[.pointer (some ⟨w.heap.size, 0, none⟩)] trivial (enters_of Tryz.func271 (by kernel_rfl) rfl) _ 0 (by decide) (by decide) _ hs0)).mono ?_
  rintro e w' ⟨v, ss, rfl, hS, _, hn, hb⟩
  exact ⟨by rw [hn.2 (List.Perm.eq_nil hS)], Chg.of_below hb⟩
theorem ins_none_string (w : World) : Calls Tryz.prog 314 #[.slice none 0 0, .int .i64 0, .int .i64 0] w fun e w' => e = .returned (.tuple #[]) ∧ w' = w := by
  go_enter Tryz.func314, Tryz.ntmps314
  go_wp2_with fail
  obtain ⟨wo, rfl⟩ : ∃ wo : World, wo = w := ⟨_, rfl⟩
  go_loopw [6] (fun i wr => i = .int .i64 1 ∧ wr = wo) (fun _ _ => 0)
  case atStart => exact ⟨rfl, rfl⟩
  case round =>
    obtain ⟨rfl, rfl⟩ := hrel
    go_wp2_with fail
    go_end0
    exact ⟨rfl, rfl⟩
theorem pdq_none_string (w : World) : Calls Tryz.prog 298 #[.slice none 0 0, .int .i64 0, .int .i64 0, .int .i64 0] w fun e w' => e = .returned (.tuple #[]) ∧ w' = w := by
  go_enter Tryz.func298, Tryz.ntmps298
  go_wp2_with fail
  obtain ⟨wo, rfl⟩ : ∃ wo : World, wo = w := ⟨_, rfl⟩
  go_loopw [1, 2, 8] (fun a b i wr => a = .int .i64 0 ∧ b = .int .i64 0 ∧ i = .bool true ∧ wr = wo) (fun _ _ _ _ => 0)
  case atStart => exact ⟨rfl, rfl, rfl, rfl⟩
  case round =>
    obtain ⟨rfl, rfl, rfl, rfl⟩ := hrel
    go_wp2_with fail
    refine (ins_none_string _).mono ?_
    rintro e w1 ⟨rfl, rfl⟩
    go_wp2_with fail
    exact bodyPost_ret (results_none rfl _ _ _) rfl ⟨rfl, rfl⟩
theorem sort_none_string (w : World) : Calls Tryz.prog 270 #[.slice none 0 0] w fun e w' => e = .returned (.tuple #[]) ∧ w' = w := by
  have HB : Calls Tryz.prog 174 #[.int .u64 0] w _ := Tryz.bits_Len 0 w (by decide) (by decide)
  go_enter Tryz.func270, Tryz.ntmps270
  go_wp2_with fail
  refine HB.mono ?_
  rintro e w1 ⟨rfl, rfl⟩
  go_wp2_with fail
  refine (pdq_none_string _).mono ?_
  rintro e w2 ⟨rfl, rfl⟩
  go_wp2_with fail
  go_end0
  exact ⟨rfl, rfl⟩
theorem sorted_none_string {b : Nat} {w : World} (h : w.heap[b]? = some (.map #[] 0)) : Calls Tryz.prog 236 #[.func (.func 271) #[] #[.pointer (some ⟨w.heap.size, 0, none⟩)]] (w.alloc (.cells #[.map (some b)] 197)) fun e w' => e = .returned (.slice none 0 0) ∧ Chg NoB (w.alloc (.cells #[.map (some b)] 197)) w' := by
  have HC := Lib.hid (collect_none_string h)
  clear h
  go_enter Tryz.func236, Tryz.ntmps236
  go_wp2_with fail
  refine HC.out.mono ?_
  rintro e w1 ⟨rfl, hC⟩
  have HC1 := Lib.hid hC
  clear hC
  go_wp2_with fail
  refine (sort_none_string _).mono ?_
  rintro e w2 ⟨rfl, rfl⟩
  go_wp2_with fail
  go_ret
  exact ⟨rfl, HC1.out⟩
end Go.Proofs.YtoefffjhjmjhfaaGreat

/- A vector's text, any vector that may be. No statement is proved here. -/
import Derived.Test.YthkmocfdpmlllabDoorVectorC
import Derived.Deep.AppendLies
import Derived.Lib.AppendIntMem
import Derived.Lib.ItoaLen
namespace Go.Proofs.YthkmocfdpmlllabDoor
open Go.RowKit
attribute [local go_sem] max2_mx max_two_ eq_nums

abbrev Tab (w : World) : Prop := Lib.TabIs Tryd.prog w "internal/strconv.uint64pow10" .u64 Lib.pow10Tab
theorem var_chg {w w' : World} {n : String} {cs : Array Value} (h : w.var? Tryd.prog n = some cs) (hC : Chg NoB w w') : w'.var? Tryd.prog n = some cs := by
  unfold World.var? at h ⊢
  cases hg : Tryd.prog.globalNamed n with
  | none => simp [hg] at h
  | some g =>
    simp only [hg, Option.bind_some] at h ⊢
    have hlt : g < w.heap.size := by
      rcases Nat.lt_or_ge g w.heap.size with hl | hge
      · exact hl
      · rw [Array.getElem?_eq_none hge] at h; cases h
    rw [hC.block g hlt id]
    exact h
theorem tab_chg {w w' : World} (h : Tab w) (hC : Chg NoB w w') : Tab w' := var_chg h hC
/-- A number's text. -/
def dec (n : Int) : ByteArray := ⟨(Lib.itoa n).toArray⟩
set_option maxRecDepth 100000 in
theorem fmt_any {n : Int} (h0 : -9223372036854775808 ≤ n) (h1 : n ≤ 9223372036854775807) (w : World) (ht : Tab w) : Calls Tryd.prog 35 #[.int .i64 n, .int .i64 10] w fun e w' => e = .returned (.string (dec n)) ∧ Chg NoB w w' :=
  (Tryd.strconv_FormatInt_10 n h0 h1 w ht).mono fun _ _ ⟨he, k, os, hw⟩ => ⟨he, by rw [hw]; exact Chg.of_below (Lib.below_grow w.heap.size w (Nat.le_refl _) k os)⟩
theorem dec_zero : dec 0 = ⟨#[48]⟩ := by
  unfold dec
  rw [show Lib.itoa 0 = [48] by kernel_rfl]
/-- Up to which node a text tells numbers, of the first k + 1. -/
def top (f : Vc) : Nat → Nat
  | 0 => 0
  | k + 1 => if f (k + 1) = 0 then top f k else k + 1
theorem top_le (f : Vc) (k : Nat) : top f k ≤ k := by
  induction k with
  | zero => exact Nat.le_refl _
  | succ k ih => unfold top; split <;> omega
theorem top_zero (f : Vc) {k i : Nat} (h1 : top f k < i) (h2 : i ≤ k) : f i = 0 := by
  induction k with
  | zero => omega
  | succ k ih =>
    unfold top at h1
    split at h1
    · next h =>
      by_cases e : i = k + 1
      · subst e; exact h
      · exact ih h1 (by omega)
    · omega
/-- The numbers' texts, of the first n nodes. -/
def decs (f : Vc) (n : Nat) : List ByteArray := (List.range n).map fun i => dec (f i)
theorem decs_succ (f : Vc) (n : Nat) : decs f (n + 1) = decs f n ++ [dec (f n)] := by simp [decs, List.range_succ]
def tx (f : Vc) : ByteArray := ⟨(Lib.join ((decs f (top f 7 + 1)).map (·.data.toList)) [44]).toArray⟩
def lenV : Value → Nat
  | .slice _ n _ => n
  | _ => 0
def strs (l : List ByteArray) : List Value := l.map Value.string
theorem own_cells {w : World} {base n cap g : Nat} {L : List ByteArray} (hl : L.length = n) (h : w.ownsRow base 9 1 (.slice (some ⟨g, 0, none⟩) n cap) n (strs L)) (hn : 0 < n) :
    (∀ (j : Nat) x, L[j]? = some x → w.cell? ⟨g, 0 + j, none⟩ = some (.string x)) ∧ n ≤ cap := by
  obtain ⟨_, hr⟩ := h
  rcases hr with ⟨_, h0⟩ | ⟨g', cap', cur, hv, _, hB, hn2, hcap, hsz, htk⟩
  · omega
  cases hv
  refine ⟨fun j x hj => ?_, hn2⟩
  have hjl : j < L.length := (List.getElem?_eq_some_iff.1 hj).1
  rw [cell_of_row w g (0 + j) cur 9 (0, 0) hB, Nat.zero_add, ← Array.getElem?_toList, ← List.getElem?_take_of_lt (show j < n * 1 by omega), htk]
  unfold strs
  rw [List.getElem?_map, hj]
  rfl
theorem own_chg {w w' : World} {base n : Nat} {v : Value} {xs : List Value} (h : w.ownsRow base 9 1 v n xs) (hC : Chg NoB w w') : w'.ownsRow base 9 1 v n xs := by
  obtain ⟨h1, hr⟩ := h
  refine ⟨h1, ?_⟩
  rcases hr with h0 | ⟨g, cap, cur, hv, hb, hB, hrest⟩
  · exact .inl h0
  · exact .inr ⟨g, cap, cur, hv, hb, Blk.chg (w := w) hB hC id, hrest⟩
theorem decs_length (f : Vc) (n : Nat) : (decs f n).length = n := by simp [decs]
theorem lens_le (c : Nat) : ∀ L : List (List UInt8), (∀ x ∈ L, x.length ≤ c) → Lib.lens L ≤ c * L.length
  | [], _ => by simp [Lib.lens]
  | x :: r, h => by
    have ih := lens_le c r fun y hy => h y (List.mem_cons_of_mem _ hy)
    have h1 := h x List.mem_cons_self
    simp only [Lib.lens, List.map_cons, List.sum_cons, List.length_cons] at *
    rw [Nat.mul_add]
    omega
theorem decs_join_le (f : Vc) {n : Nat} (hn : n ≤ 8) (hf : ∀ k, k < 8 → -9223372036854775808 ≤ f k ∧ f k ≤ 9223372036854775807) : (Lib.join ((decs f n).map (·.data.toList)) [44]).length ≤ 140737488355328 := by
  have hx : ∀ x ∈ (decs f n).map (·.data.toList), x.length ≤ 21 := by
    intro x hx
    simp only [decs, List.map_map, List.mem_map, List.mem_range] at hx
    obtain ⟨i, hi, rfl⟩ := hx
    exact Lib.itoa_length_le _ (hf i (by omega)).1 (hf i (by omega)).2
  have hl : ((decs f n).map (·.data.toList)).length ≤ 8 := by rw [List.length_map, decs_length]; exact hn
  generalize (decs f n).map (·.data.toList) = L at *
  match L, hx, hl with
  | [], _, _ => simp [Lib.join]
  | x :: r, hx, hl =>
    have h1 := hx x List.mem_cons_self
    have h2 := lens_le 21 r fun y hy => hx y (List.mem_cons_of_mem _ hy)
    simp only [List.length_cons] at hl
    rw [Lib.join_cons, List.length_append, Lib.joinTail_length]
    simp only [List.length_cons, List.length_nil]
    omega
set_option maxRecDepth 100000 in
set_option maxHeartbeats 8000000 in
theorem text_int (f : Vc) (hf : ∀ k, k < 8 → -9223372036854775808 ≤ f k ∧ f k ≤ 9223372036854775807) (w : World) (ht : Tab w) : Calls Tryd.prog 19 #[vec f] w fun e w' => e = .returned (.string (tx f)) ∧ Chg NoB w w' := by
  have HF := Lib.hid hf
  have HT := Lib.hid ht
  clear hf ht
  go_enter Tryd.func19, Tryd.ntmps19
  go_wp2_with fail
  refine (fmt_any (HF.out 0 (by decide)).1 (HF.out 0 (by decide)).2 _ (tab_chg HT.out ((Chg.refl NoB w).alloc _))).mono ?_
  rintro e w1 ⟨rfl, hC⟩
  have B0 := Lib.hid (((Blk.new w 23 (va f)).chg hC id).alloc (Obj.cells #[.string (dec (f 0))] 9))
  have B1 := Lib.hid (Blk.new w1 9 #[.string (dec (f 0))])
  have HC := Lib.hid ((((Chg.refl NoB w).alloc _).trans hC).alloc (Obj.cells #[.string (dec (f 0))] 9))
  have HL : Hid (w.heap.size < w1.heap.size) := Lib.hid ((Blk.new w 23 (va f)).chg hC id).lt
  clear hC
  go_wp2_with fail
  have HO : Hid ((w1.alloc (Obj.cells #[.string (dec (f 0))] 9)).ownsRow w1.heap.size 9 1 (.slice (some ⟨w1.heap.size, 0, none⟩) 1 1) (top f 0 + 1) (strs (decs f (top f 0 + 1)))) := Lib.hid ⟨rfl, .inr ⟨_, _, _, rfl, Nat.le_refl _, B1.out, Nat.le_refl _, by unfold maxLen; omega, rfl, rfl⟩⟩
  generalize w1.alloc (Obj.cells #[.string (dec (f 0))] 9) = W at *
  have HB1 : Hid (w1.heap.size ≤ W.heap.size) := Lib.hid (Nat.le_of_lt B1.out.lt)
  generalize w1.heap.size = b1 at *
  clear B1
  go_loopw [3, 12] (fun l i wr => ∃ k : Nat, k ≤ 7 ∧ i = .int .i64 k ∧ wr.ownsRow b1 9 1 l (top f k + 1) (strs (decs f (top f k + 1))) ∧ Blk wr w.heap.size 23 (va f) ∧ b1 ≤ wr.heap.size ∧ Chg NoB w wr) (fun _ i _ => 7 - (intOf i).toNat)
  case atStart => exact ⟨0, by decide, rfl, HO.out, B0.out, HB1.out, HC.out⟩
  case round =>
    clear HO B0 HB1 HC
    obtain ⟨k, hk, rfl, hO, h0, hb, hC⟩ := hrel
    obtain ⟨g, cap, rfl, hbg, hgl⟩ := hO.form (by omega)
    have HO := Lib.hid hO
    have B0 := Lib.hid h0
    have HB := Lib.hid hb
    have HC := Lib.hid hC
    clear hO h0 hb hC
    by_cases hlt : k < 7
    · have hk7 : (k : Int) < 7 := by omega
      have hv : wr.cell? ⟨w.heap.size, 1 + k, none⟩ = some (.int .i64 (f (k + 1))) := (B0.out.cell (1 + k)).trans ((va_get f (by omega)).trans (by rw [Nat.add_comm]))
      by_cases hz : f (k + 1) = 0
      · have hz1 : (f (k + 1) == 0) = true := by simp [hz]
        have HTop : Hid (top f (k + 1) = top f k) := Lib.hid (by rw [top, if_pos hz])
        clear hz
        go_wp2_with fail
        go_roundw
        case rel => exact ⟨k + 1, by omega, by go_num, by rw [HTop.out]; exact HO.out, B0.out, HB.out, HC.out⟩
        case measure => simp [intOf]; omega
      · have hz1 : (f (k + 1) == 0) = false := by simpa using hz
        have HTop : Hid (top f (k + 1) = k + 1) := Lib.hid (by rw [top, if_neg hz])
        clear hz
        go_wp2_with fail
        obtain ⟨wo, rfl⟩ : ∃ wo : World, wo = wr := ⟨_, rfl⟩
        go_loopw [3] (fun l wr => ∃ c : Nat, top f k + 1 ≤ c ∧ c ≤ k + 1 ∧ wr.ownsRow b1 9 1 l c (strs (decs f c)) ∧ Blk wr w.heap.size 23 (va f) ∧ b1 ≤ wr.heap.size ∧ Chg NoB w wr) (fun l _ => k + 1 - lenV l)
        case atStart => exact ⟨top f k + 1, Nat.le_refl _, by have := top_le f k; omega, HO.out, B0.out, HB.out, HC.out⟩
        case round =>
          clear HO B0 HB HC hbg hgl hv
          obtain ⟨c, hc1, hc2, hO, h0, hb, hC⟩ := hrel
          obtain ⟨g2, cap2, rfl, hbg, hgl⟩ := hO.form (by omega)
          have HO2 := Lib.hid hO
          have C0 := Lib.hid h0
          have HB2 := Lib.hid hb
          have HC2 := Lib.hid hC
          clear hO h0 hb hC
          by_cases hck : c ≤ k
          · have hck2 : decide ((c : Int) ≤ (k : Int)) = true := by simpa using hck
            have HZ : Hid (strs (decs f c) ++ [.string ⟨#[48]⟩] = strs (decs f (c + 1))) := Lib.hid (by rw [decs_succ, top_zero f (show top f k < c by omega) hck, dec_zero]; simp [strs])
            obtain ⟨i9, hi9, z9, s9, y9⟩ := info_parts Tryd.infS
            have hown2 := World.ownsRow.alloc HO2.out (.cells #[.string ⟨#[48]⟩] 9)
            have hnw := World.news_of_block (w := wr.alloc (.cells #[.string ⟨#[48]⟩] 9)) (heap_alloc_new wr _)
            have hbb := HB2.out
            go_wp2_with (at_builtin; refine wpList_append_lies _ rfl _ _ _ rfl b1 9 i9 _ 1 16 Tryd.underlying64 hi9 z9 s9 y9 rfl (by omega) _ c (strs (decs f c)) rfl hown2 _ 1 1 [.string ⟨#[48]⟩] rfl rfl hnw (by intro u hu; simp only [List.mem_singleton] at hu; subst hu; rfl) (by omega) (by unfold maxLen; omega) (by omega) (by simp; omega) (wr.heap.size + 1) (by simp) ?_)
            intro g3 cap3 w3 hown3 hgrow hat hlt3
            have hC3 : Chg (Only g2) wr w3 := ((Chg.refl _ wr).alloc (.cells #[.string ⟨#[48]⟩] 9)).trans (grown_chg hgrow)
            have hwl := HL.out
            have D0 := Lib.hid (C0.out.chg hC3 (by unfold Only; omega))
            have HC3 := Lib.hid (HC2.out.then_ hC3 (fun j hj hs => by unfold Only at hs; omega))
            have HB3 : Hid (b1 ≤ w3.heap.size) := Lib.hid (Nat.le_trans hbb hC3.size)
            have HO3 := Lib.hid hown3
            clear hown2 hnw hown3 hgrow hat hlt3 hC3 hwl hi9 z9 s9 y9 hbb
            go_wp2_with fail
            go_roundw
            case rel => exact ⟨c + 1, by omega, by omega, by rw [← HZ.out]; exact HO3.out, D0.out, HB3.out, HC3.out⟩
            case measure => simp [lenV]; omega
          · obtain rfl : c = k + 1 := by omega
            have hck2 : decide (((k + 1 : Nat) : Int) ≤ (k : Int)) = false := by simp; omega
            go_wp2_with fail
            refine (fmt_any (HF.out (k + 1) (by omega)).1 (HF.out (k + 1) (by omega)).2 _ (tab_chg HT.out HC2.out)).mono ?_
            rintro e w2 ⟨rfl, hC⟩
            have HOa := Lib.hid (own_chg HO2.out hC)
            have C0a := Lib.hid (C0.out.chg hC id)
            have HB2a : Hid (b1 ≤ w2.heap.size) := Lib.hid (Nat.le_trans HB2.out hC.size)
            have HC2a := Lib.hid (HC2.out.trans hC)
            clear hC HO2 C0 HB2 HC2
            have HO2 := HOa
            have C0 := C0a
            have HB2 := HB2a
            have HC2 := HC2a
            have HZ : Hid (strs (decs f (k + 1)) ++ [.string (dec (f (k + 1)))] = strs (decs f (k + 1 + 1))) := Lib.hid (by rw [decs_succ f (k + 1)]; simp [strs])
            obtain ⟨i9, hi9, z9, s9, y9⟩ := info_parts Tryd.infS
            have hown2 := World.ownsRow.alloc HO2.out (.cells #[.string (dec (f (k + 1)))] 9)
            have hnw := World.news_of_block (w := w2.alloc (.cells #[.string (dec (f (k + 1)))] 9)) (heap_alloc_new w2 _)
            have hbb := HB2.out
            go_wp2_with (at_builtin; refine wpList_append_lies _ rfl _ _ _ rfl b1 9 i9 _ 1 16 Tryd.underlying64 hi9 z9 s9 y9 rfl (by omega) _ (k + 1) (strs (decs f (k + 1))) rfl hown2 _ 1 1 [.string (dec (f (k + 1)))] rfl rfl hnw (by intro u hu; simp only [List.mem_singleton] at hu; subst hu; rfl) (by omega) (by unfold maxLen; omega) (by omega) (by simp; omega) (w2.heap.size + 1) (by simp) ?_)
            intro g3 cap3 w3 hown3 hgrow hat hlt3
            have hC3 : Chg (Only g2) w2 w3 := ((Chg.refl _ w2).alloc (.cells #[.string (dec (f (k + 1)))] 9)).trans (grown_chg hgrow)
            have hwl := HL.out
            have D0 := Lib.hid (C0.out.chg hC3 (by unfold Only; omega))
            have HC3 := Lib.hid (HC2.out.then_ hC3 (fun j hj hs => by unfold Only at hs; omega))
            have HB3 : Hid (b1 ≤ w3.heap.size) := Lib.hid (Nat.le_trans hbb hC3.size)
            have HO3 := Lib.hid hown3
            clear hown2 hnw hown3 hgrow hat hlt3 hC3 hwl hi9 z9 s9 y9 hbb
            go_wp2_with fail
            go_roundw
            case rel => exact ⟨k + 1, by omega, by go_num, by rw [HTop.out, ← HZ.out]; exact HO3.out, D0.out, HB3.out, HC3.out⟩
            case measure => simp [intOf]; omega
    · obtain rfl : k = 7 := by omega
      go_wp2_with fail
      have hl := decs_length f (top f 7 + 1)
      obtain ⟨hcells, hcap⟩ := own_cells hl HO.out (by omega)
      have ht7 := top_le f 7
      have hj := Tryd.strings_Join g 0 cap (decs f (top f 7 + 1)) ⟨#[44]⟩ wr hcells hgl (by rw [hl]; omega) (by rw [hl]; exact hcap) (decs_join_le f (by omega) HF.out)
      rw [hl] at hj
      refine hj.mono ?_
      rintro e w2 ⟨rfl, hB⟩
      have HD := Lib.hid (HC.out.trans (Chg.of_below hB))
      clear hB hj hcells hcap ht7 hl
      go_wp2_with fail
      go_ret
      exact ⟨rfl, HD.out⟩
theorem text_any (f : Vc) (hm : may f = true) (w : World) (ht : Tab w) : Calls Tryd.prog 19 #[vec f] w fun e w' => e = .returned (.string (tx f)) ∧ Chg NoB w w' :=
  text_int f (fun k hk => by have := may_iff.1 hm k hk; unfold inr_ at this; omega) w ht
end Go.Proofs.YthkmocfdpmlllabDoor

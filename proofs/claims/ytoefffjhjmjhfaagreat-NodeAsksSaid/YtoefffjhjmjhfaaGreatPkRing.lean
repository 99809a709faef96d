/- A ring of one node: its points laid, its order. No statement is proved here. A ring of one node: the order of its nodes, owners. No statement is proved here. A ring of one node: owners; a client's refusal; a key's other owners. No statement is proved here. -/
import Derived.Test.YtoefffjhjmjhfaaGreatRing
import Derived.Test.YtoefffjhjmjhfaaGreatAppendAll
import Derived.Test.YtoefffjhjmjhfaaGreatShelf
import Derived.Deep.AppendLies
import Derived.Test.YtoefffjhjmjhfaaGreatMaps
import Derived.Test.YtoefffjhjmjhfaaGreatPkQueue
import Derived.Test.YtoefffjhjmjhfaaGreatNState
import Derived.Lib.SliceRun
namespace Go.Proofs.YtoefffjhjmjhfaaGreat
open Go.RowKit Go.Proofs.YtoefffjhjmjhfaaGreatW.PrintLast
attribute [local go_sem] max2_mx min2_mn max_two_ min_two_
set_option maxRecDepth 100000

theorem Tryz.infPt : (Tryz.prog.info? 255).map (fun i => (i.zero, i.size, i.bytes)) = some (some (.agg #[.int .u32 0, .int .i64 0, .int .i64 0]), 3, 24) := by kernel_rfl
theorem Tryz.infI64 : (Tryz.prog.info? 3).map (fun i => (i.zero, i.size, i.bytes)) = some (some (.int .i64 0), 1, 8) := by kernel_rfl
theorem agP (w : World) : (isAgg 255).run Tryz.prog w = .ok true w := by kernel_rfl
theorem szP (w : World) : (Go.sizeOf 255).run Tryz.prog w = .ok 3 w := by kernel_rfl
theorem own_baseR {w : World} {b1 b2 n k : Nat} {t : TypeId} {v : Value} {xs : List Value} (h : w.ownsRow b1 t k v n xs) (hb : ∀ j, v.ownBlock = some j → b2 ≤ j) : w.ownsRow b2 t k v n xs := by
  obtain ⟨h1, hr⟩ := h
  refine ⟨h1, ?_⟩
  rcases hr with h0 | ⟨g', cap, cur, rfl, _, hrest⟩
  · exact .inl h0
  · exact .inr ⟨g', cap, cur, rfl, hb g' rfl, hrest⟩
abbrev rgf (n d st sm mk : Int) (l : Value) : Array Value := #[.int .i64 n, .int .u32 d, .int .i32 st, .int .u32 sm, .int .i32 mk, l]
/-- A ring's points so far. -/
structure RG (w0 w : World) (g : Nat) (mk : Int) (ps : List Pt) : Prop where
  ex : ∃ l, Blk w g 119 (rgf 1 0 1 0 mk l) ∧ w.ownsRow w0.heap.size 255 3 l ps.length (ps.flatMap encP)
  z : ∀ p ∈ ps, p.2.1 = 0
  chg : Chg (Only g) w0 w
theorem RG.st {w0 w w' : World} {g : Nat} {mk : Int} {ps : List Pt} (h : RG w0 w g mk ps) (hC : Chg NoB w w') : RG w0 w' g mk ps := by
  obtain ⟨⟨l, h1, h2⟩, h3, h4⟩ := h
  exact ⟨⟨l, h1.st hC, own_chg h2 hC fun _ _ => id⟩, h3, h4.st hC⟩
theorem add32_any {w : World} {g i : Nat} {v : Int} (h : w.cell? ⟨g, i, none⟩ = some (.int .i32 v)) (hf : w.frozen? ⟨g, i, none⟩ = false) (hv : 0 ≤ v ∧ v < 1000) :
    Calls Tryz.prog 206 #[.pointer (some ⟨g, i, none⟩), .int .i32 1] w fun e w' => e = .returned (.int .i32 (v + 1)) ∧ w' = w.setCell ⟨g, i, none⟩ (.int .i32 (v + 1)) := by
  have hs : IntKind.i32.wrap (v + 1) = v + 1 := by rw [IntKind.wrap_i32]; omega
  have hl := run_call_add (P := Tryz.prog) Tryz.func255 (by kernel_rfl) (by kernel_rfl) (by kernel_rfl) .i32 (by kernel_rfl) (y := 1) (s := v + 1) h hf (by simp [go_sem, hs])
  go_enter Tryz.func206, Tryz.ntmps206
  go_wp2
  go_ret
  exact ⟨rfl, rfl⟩
theorem flatP_one : ∀ (ps : List Pt), ∀ v ∈ ps.flatMap encP, v.oneCell' = true
  | [], v, h => by cases h
  | p :: ps, v, h => by
    rw [List.flatMap_cons] at h
    rcases List.mem_append.1 h with h | h
    · simp at h
      rcases h with rfl | rfl | rfl <;> rfl
    · exact flatP_one ps v h
set_option maxHeartbeats 4000000 in
theorem fill_one {w : World} {g : Nat} (h : Blk w g 119 (rgf 1 0 1 0 0 (.slice none 0 0))) :
    Calls Tryz.prog 154 #[.pointer (some ⟨g, 0, none⟩)] w fun e w' => e = .returned (.tuple #[]) ∧ (∃ ps, ps.length = 4 ∧ RG w w' g 1 ps) := by
  have hgw := h.lt
  have HR : Hid (RG w w g 0 []) := Lib.hid ⟨⟨_, h, World.ownsRow_nil _ _ _ _⟩, (fun p hp => by cases hp), Chg.refl _ _⟩
  have c0 := h.cell 0
  obtain ⟨i9, hi9, z9, s9, y9⟩ := info_parts Tryz.infPt
  clear h
  go_enter Tryz.func154, Tryz.ntmps154
  go_upto_block 0 with fail
  go_wp2_with fail
  clear c0
  go_loopw [8] (fun i wr => ∃ k : Nat, k ≤ 1 ∧ i = .int .i64 k ∧ ∃ ps, Hid (ps.length = 4 * k) ∧ Hid (RG w wr g 0 ps)) (fun i _ => 1 - (intOf i).toNat)
  case atStart => exact ⟨0, by omega, rfl, [], Lib.hid rfl, HR⟩
  case round =>
    clear HR
    obtain ⟨k, hk, rfl, ps, HL, HR⟩ := hrel
    by_cases hlt : k < 1
    · obtain rfl : k = 0 := by omega
      go_upto_block 2 with fail
      go_wp2_with fail
      go_loopw [11] (fun i wr' => ∃ m : Nat, m ≤ 4 ∧ i = .int .i64 m ∧ ∃ ps, Hid (ps.length = m) ∧ Hid (RG w wr' g 0 ps)) (fun i _ => 4 - (intOf i).toNat)
      case atStart => exact ⟨0, by omega, rfl, ps, Lib.hid (by have := HL.out; omega), HR⟩
      case round =>
        clear HR HL
        obtain ⟨m, hm, rfl, ps, HL, HR⟩ := hrel
        by_cases hlt : m < 4
        · obtain ⟨⟨l, hB, hO⟩, hz, hC⟩ := HR.out
          obtain ⟨op_, oc, rfl⟩ : ∃ a b, l = .slice a ps.length b := (own_form hO).elim fun a h => h.elim fun b h => ⟨a, b, h.1⟩
          have HB := Lib.hid hB
          have HO := Lib.hid hO
          have HNo : Hid (¬ (Value.slice op_ ps.length oc).ownBlock = some g) := Lib.hid fun hk => by have := (hO.lt g hk).1; omega
          have hbw := hC.size
          clear hB hO hz hC
          go_upto_region 6 with fail
          refine start_ (n := 16) (S := fun w' => w'.cell? ⟨g, 5, none⟩ = some (.slice op_ ps.length oc)) (ds := [15]) #[false, false, false, false, false, false, false, false, false, false, false, false, false, false, false, false] (by kernel_rfl) rfl rfl ((HB.out.drew.cell 5)) (fun hHeld => ?_)
          refine pure_ (i := 0) (N := some 14) (v := ?_) (a' := ?_) #[true, false, false, false, false, false, false, false, false, false, false, false, false, false, false, false] rfl rfl (by kernel_rfl) (fun _ _ _ h => h) (Or.inl ⟨by rfl, ?_⟩) ?_ ?_
          rotate_left
          · intro w'
            go_simp
            with_reducible rfl
          rotate_left
          · simp only [Act.put, List.setIfInBounds_toArray, List.set_cons_zero, List.set_cons_succ]
            rfl
          refine pure_ (i := 1) (N := some 15) (v := ?_) (a' := ?_) #[true, true, false, false, false, false, false, false, false, false, false, false, false, false, false, false] rfl rfl (by kernel_rfl) (fun _ _ _ h => h) (Or.inl ⟨by rfl, ?_⟩) ?_ ?_
          rotate_left
          · intro w'
            go_simp
            with_reducible rfl
          rotate_left
          · simp only [Act.put, List.setIfInBounds_toArray, List.set_cons_zero, List.set_cons_succ]
            rfl
          refine pure_ (i := 2) (N := some 16) (v := ?_) (a' := ?_) #[true, true, true, false, false, false, false, false, false, false, false, false, false, false, false, false] rfl rfl (by kernel_rfl) (fun _ _ _ h => h) (Or.inl ⟨by rfl, ?_⟩) ?_ ?_
          rotate_left
          · intro w'
            go_simp
            with_reducible rfl
          rotate_left
          · simp only [Act.put, List.setIfInBounds_toArray, List.set_cons_zero, List.set_cons_succ]
            rfl
          refine pure_ (i := 3) (N := some 17) (v := ?_) (a' := ?_) #[true, true, true, true, false, false, false, false, false, false, false, false, false, false, false, false] rfl rfl (by kernel_rfl) (fun _ _ _ h => h) (Or.inl ⟨by rfl, ?_⟩) ?_ ?_
          rotate_left
          · intro w'
            go_simp
            with_reducible rfl
          rotate_left
          · simp only [Act.put, List.setIfInBounds_toArray, List.set_cons_zero, List.set_cons_succ]
            rfl
          refine pure_ (i := 5) (N := some 19) (v := ?_) (a' := ?_) #[true, true, true, true, false, true, false, false, false, false, false, false, false, false, false, false] rfl rfl (by kernel_rfl) (fun _ _ _ h => h) (Or.inl ⟨by rfl, ?_⟩) ?_ ?_
          rotate_left
          · intro w'
            go_simp
            with_reducible rfl
          rotate_left
          · simp only [Act.put, List.setIfInBounds_toArray, List.set_cons_zero, List.set_cons_succ]
            rfl
          refine pure_ (i := 6) (N := some 20) (v := ?_) (a' := ?_) #[true, true, true, true, false, true, true, false, false, false, false, false, false, false, false, false] rfl rfl (by kernel_rfl) (fun _ _ _ h => h) (Or.inl ⟨by rfl, ?_⟩) ?_ ?_
          rotate_left
          · intro w'
            go_simp
            with_reducible rfl
          rotate_left
          · simp only [Act.put, List.setIfInBounds_toArray, List.set_cons_zero, List.set_cons_succ]
            rfl
          refine pure_ (i := 8) (N := some 22) (v := ?_) (a' := ?_) #[true, true, true, true, false, true, true, false, true, false, false, false, false, false, false, false] rfl rfl (by kernel_rfl) (fun _ _ _ h => h) (Or.inl ⟨by rfl, ?_⟩) ?_ ?_
          rotate_left
          · intro w'
            go_simp
            with_reducible rfl
          rotate_left
          · simp only [Act.put, List.setIfInBounds_toArray, List.set_cons_zero, List.set_cons_succ]
            rfl
          refine pure_ (i := 9) (N := some 23) (v := ?_) (a' := ?_) #[true, true, true, true, false, true, true, false, true, true, false, false, false, false, false, false] rfl rfl (by kernel_rfl) (fun _ _ _ h => h) (Or.inl ⟨by rfl, ?_⟩) ?_ ?_
          rotate_left
          · intro w'
            go_simp
            with_reducible rfl
          rotate_left
          · simp only [Act.put, List.setIfInBounds_toArray, List.set_cons_zero, List.set_cons_succ]
            rfl
          refine take_ (i := 4) (N := some 18) (v := ?_) (a' := ?_) #[true, true, true, true, true, true, true, false, true, true, false, false, false, false, false, false] rfl rfl (by kernel_rfl) (fun _ _ _ h => h) (Or.inl ⟨by rfl, ?_⟩) hHeld ?_ ?_
          rotate_left
          · intro w' s0
            go_simp
            with_reducible rfl
          rotate_left
          · simp only [Act.put, List.setIfInBounds_toArray, List.set_cons_zero, List.set_cons_succ]
            rfl
          refine one_ (i := 7) (N := some 21) #[true, true, true, true, true, true, true, true, true, true, false, false, false, false, false, false] rfl rfl (by kernel_rfl) (by decide) (fun K hK => ?_)
          refine goes_ Tryz.func200 (by kernel_rfl) rfl #[.int .i64 0, .int .i64 m] (by rfl) rfl rfl (by simp only [List.map_toArray, List.map_cons, List.map_nil]; rfl) ?_
          with_reducible refine ((point_any 0 m _)).mono ?_
          rintro e wp ⟨⟨x, rfl⟩, hCp⟩
          refine ⟨_, rfl, ?_⟩
          have HCp := Lib.hid hCp
          have HBp := Lib.hid (HB.out.drew.st hCp)
          have HOp := Lib.hid (own_chg (HO.out.drew) hCp fun _ _ => id)
          clear hCp
          refine hK.out _ _ ((HBp.out.cell 5)) (fun hHeld => ?_)
          clear hK K
          refine norm_ (a' := ?_) ?_ ?_
          rotate_left
          · show Act.put _ (some 21) _ = _
            simp only [Act.put, List.setIfInBounds_toArray, List.set_cons_zero, List.set_cons_succ]
            rfl
          refine pure_ (i := 10) (N := some 24) (v := ?_) (a' := ?_) #[true, true, true, true, true, true, true, true, true, true, true, false, false, false, false, false] rfl rfl (by kernel_rfl) (fun _ _ _ h => h) (Or.inl ⟨by rfl, ?_⟩) ?_ ?_
          rotate_left
          · intro w'
            go_simp
            with_reducible rfl
          rotate_left
          · simp only [Act.put, List.setIfInBounds_toArray, List.set_cons_zero, List.set_cons_succ]
            rfl
          refine one_ (i := 11) (N := some 25) #[true, true, true, true, true, true, true, true, true, true, true, true, false, false, false, false] rfl rfl (by kernel_rfl) (by decide) (fun K hK => ?_)
          refine value_ (w1 := ?_) (v := ?_) (by rfl) rfl ?_ ?_
          rotate_left 2
          · go_simp
            constructor
            · rfl
            · rfl
          refine hK.out _ _ (((HBp.out.alloc _).cell 5)) (fun hHeld => ?_)
          clear hK K
          refine norm_ (a' := ?_) ?_ ?_
          rotate_left
          · show Act.put _ (some 25) _ = _
            simp only [Act.put, List.setIfInBounds_toArray, List.set_cons_zero, List.set_cons_succ]
            rfl
          refine one_ (i := 12) (N := some 26) #[true, true, true, true, true, true, true, true, true, true, true, true, true, false, false, false] rfl rfl (by kernel_rfl) (by decide) (fun K hK => ?_)
          refine step_append_lies _ (by rfl) _ _ _ (by rfl) w.heap.size 255 i9 _ 3 24 Tryz.underlying117 hi9 z9 s9 y9 rfl (by omega) (.slice op_ ps.length oc) ps.length (ps.flatMap encP) (by rfl) (World.ownsRow.alloc HOp.out _)
            ⟨wp.heap.size, 0, none⟩ 1 1 [.int .u32 x, .int .i64 0, .int .i64 m] (by rfl) (by rfl) (World.news_of_block (cs := #[.int .u32 x, .int .i64 0, .int .i64 m]) (t := 255) (fr := (0, 0)) (heap_alloc_new wp _)) (by intro v hv; simp at hv; rcases hv with rfl | rfl | rfl <;> rfl) (by omega) (by have := HL.out; unfold maxLen; omega) (by have := HL.out; omega) (by have := HCp.out.size; simp at this ⊢; omega) (wp.heap.size + 1) (by simp) ?_
          intro g3 cap3 w5 hown hgrow hat hlt5
          have HO5 := Lib.hid hown
          have HC5 := Lib.hid (grow_chg hgrow)
          have HA5 := Lib.hid hat
          have HB5 := Lib.hid ((HBp.out.alloc (Obj.cells #[.int .u32 x, .int .i64 0, .int .i64 m] 255)).chg HC5.out HNo.out)
          clear hown hgrow hat
          have fk := HB5.out.frozen 5
          refine hK.out _ _ ((HB5.out.cell 5)) (fun hHeld => ?_)
          clear hK K
          refine norm_ (a' := ?_) ?_ ?_
          rotate_left
          · show Act.put _ (some 26) _ = _
            simp only [Act.put, List.setIfInBounds_toArray, List.set_cons_zero, List.set_cons_succ]
            rfl
          refine pure_ (i := 13) (N := some 27) (v := ?_) (a' := ?_) #[true, true, true, true, true, true, true, true, true, true, true, true, true, true, false, false] rfl rfl (by kernel_rfl) (fun _ _ _ h => h) (Or.inl ⟨by rfl, ?_⟩) ?_ ?_
          rotate_left
          · intro w'
            go_simp
            with_reducible rfl
          rotate_left
          · simp only [Act.put, List.setIfInBounds_toArray, List.set_cons_zero, List.set_cons_succ]
            rfl
          refine pure_ (i := 14) (N := some 28) (v := ?_) (a' := ?_) #[true, true, true, true, true, true, true, true, true, true, true, true, true, true, true, false] rfl rfl (by kernel_rfl) (fun _ _ _ h => h) (Or.inl ⟨by rfl, ?_⟩) ?_ ?_
          rotate_left
          · intro w'
            go_simp
            with_reducible rfl
          rotate_left
          · simp only [Act.put, List.setIfInBounds_toArray, List.set_cons_zero, List.set_cons_succ]
            rfl
          refine last_ (i := 15) (N := none) #[true, true, true, true, true, true, true, true, true, true, true, true, true, true, true, true] rfl rfl (by kernel_rfl) (by decide) (fun K hK => ?_)
          refine skip_ (w1 := ?_) (by rfl) rfl ?_ ?_
          rotate_left
          · go_simp
            rfl
          refine hK.out _ _ ?_
          clear hK K
          refine done_ (by kernel_rfl) ?_
          go_wp2_with fail
          go_roundw
          case rel =>
            refine ⟨m + 1, hlt, by go_num, ps ++ [(x, 0, (m : Int))], Lib.hid (by rw [List.length_append, List.length_singleton]; have := HL.out; omega), Lib.hid ⟨⟨_, HB5.out.set_ 5 _, ?_⟩, ?_, ?_⟩⟩
            · rw [List.length_append, List.length_singleton, List.flatMap_append]
              exact own_chg HO5.out ((Chg.refl (Only g) w5).setOwn 5 _) fun k hk => by have := (HO5.out.lt k hk).1; unfold Only; omega
            · intro p hp
              rcases List.mem_append.1 hp with hp | hp
              · exact HR.out.z p hp
              · rw [List.mem_singleton.1 hp]
            · exact ((((HR.out.chg.drew).trans (Chg.of_no HCp.out)).alloc _).then_ HC5.out fun j hj hs => by have := (HO.out.lt j hs).1; omega).setOwn 5 _
          case measure => simp [intOf]; omega
        · obtain rfl : m = 4 := by omega
          go_wp2_with fail
          go_roundw
          case rel => exact ⟨1, by omega, by go_num, ps, Lib.hid (by have := HL.out; omega), HR⟩
          case measure => simp [intOf]
    · obtain rfl : k = 1 := by omega
      obtain ⟨⟨l, hB, hO⟩, hz, hC⟩ := HR.out
      obtain ⟨op_, oc, rfl⟩ : ∃ a b, l = .slice a ps.length b := (own_form hO).elim fun a h => h.elim fun b h => ⟨a, b, h.1⟩
      have HB := Lib.hid hB
      have HZ := Lib.hid hz
      have HC := Lib.hid hC
      have HO := Lib.hid hO
      have HS := Lib.hid (sort_rows (P := Tryz.prog) Tryz.sortF201 (k := 3) agP szP (enc := encP) (fun _ => rfl) (fun x u hu => by simp at hu; rcases hu with rfl | rfl | rfl <;> rfl) cmpP swoP 202 #[] (enters_of Tryz.func202 (by kernel_rfl) rfl) (fun w x y => fill1_any x y w) hO (by have := HL.out; omega))
      have c5 := hB.cell 5
      clear hB hO hz hC
      go_wp2_with fail
      refine HS.out.mono ?_
      rintro e w1 ⟨rfl, ⟨d', hp, _, hown⟩, hC1⟩
      have hno : ∀ k, (Value.slice op_ ps.length oc).ownBlock = some k → k ≠ g := fun k hk => by have := (HO.out.lt k hk).1; omega
      have HB1 := Lib.hid (HB.out.chg hC1 fun hk => hno g hk rfl)
      have HO1 := Lib.hid hown
      have HP := Lib.hid hp
      have HC1 : Hid (Chg (Only g) w w1) := Lib.hid (HC.out.then_ hC1 fun j hj hs => by have := (HO.out.lt j hs).1; omega)
      clear hC1 hown hp hno c5
      go_wp2_with fail
      refine (add32_any (v := 0) (HB1.out.cell 4) (HB1.out.frozen 4) (by omega)).mono ?_
      rintro e w2 ⟨rfl, rfl⟩
      go_wp2_with fail
      go_end0
      have hd : d'.length = ps.length := HP.out.length_eq
      refine ⟨rfl, d', by have := HL.out; omega, ⟨_, HB1.out.set_ 4 _, own_chg HO1.out ((Chg.refl (Only g) w1).setOwn 4 _) fun k hk => by have := (HO1.out.lt k hk).1; unfold Only; omega⟩, fun p hp => HZ.out p (HP.out.mem_iff.1 hp), HC1.out.setOwn 4 _⟩
end Go.Proofs.YtoefffjhjmjhfaaGreat
namespace Go.Proofs.YtoefffjhjmjhfaaGreat
open Go.RowKit Go.Proofs.YtoefffjhjmjhfaaGreatW.PrintLast
attribute [local go_sem] max2_mx min2_mn max_two_ min_two_
set_option maxRecDepth 100000

/-- A ring of one node whose points are laid; their memory lies from N on. -/
structure RO (N : Nat) (w : World) (g : Nat) : Prop where
  ex : ∃ (l : Value) (ps : List Pt), Blk w g 119 (rgf 1 1 0 0 1 l) ∧ w.ownsRow N 255 3 l ps.length (ps.flatMap encP) ∧ ps.length = 4 ∧ ∀ p ∈ ps, p.2.1 = 0
def RS (N : Nat) (w : World) (g : Nat) : Prop := Blk w g 119 (rgc 1) ∨ RO N w g
section
variable {N : Nat} {w w' : World} {g : Nat} {S : Nat → Prop}
theorem RO.chg (h : RO N w g) (hC : Chg S w w') (h1 : ¬ S g) (h2 : ∀ k, N ≤ k → ¬ S k) : RO N w' g := by
  obtain ⟨l, ps, hB, hO, h3, h4⟩ := h
  exact ⟨l, ps, hB.chg hC h1, own_chg hO hC fun k hk => h2 k (hO.lt k hk).1, h3, h4⟩
theorem RO.st (h : RO N w g) (hC : Chg NoB w w') : RO N w' g := h.chg hC id fun _ _ => id
theorem once_ring (h : RS N w g) (hN : N ≤ w.heap.size) : Calls Tryz.prog 153 #[.pointer (some ⟨g, 1, none⟩), .func (.func 154) #[.pointer (some ⟨g, 0, none⟩)] #[]] w fun e w' => e = .returned (.tuple #[]) ∧ RO N w' g ∧ Chg (Only g) w w' := by
  rcases h with h | h
  · refine (once_first g 1 w (fun w2 => ∃ ps, ps.length = 4 ∧ RG (w.setCell ⟨g, 2, none⟩ (.int .i32 1)) w2 g 1 ps) (h.cell 1) (h.cell 2) (h.frozen 2) ?_ (fun w => enters_of Tryz.func154 (by kernel_rfl) rfl _ w)).mono ?_
    · refine (fill_one (h.set_ 2 (.int .i32 1))).mono ?_
      rintro e w2 ⟨he, ps, hl, hR⟩
      obtain ⟨l, hB, _⟩ := hR.ex
      exact ⟨he, ⟨ps, hl, hR⟩, hB.cell 1, hB.cell 2, hB.frozen 1, hB.frozen 2⟩
    · rintro e w' ⟨he, w2, ⟨ps, hl, hR⟩, rfl⟩
      obtain ⟨l, hB, hO⟩ := hR.ex
      have hz : (w.setCell ⟨g, 2, none⟩ (.int .i32 1)).heap.size = w.heap.size := by simp
      rw [hz] at hO
      have hg : g < w.heap.size := h.lt
      have hown := own_chg hO (((Chg.refl (Only g) w2).drew.setOwn 1 (.int .u32 1)).setOwn 2 (.int .i32 0)) fun k hk => by have := (hO.lt k hk).1; unfold Only; omega
      exact ⟨he, ⟨l, ps, (hB.drew.set_ 1 _).set_ 2 _, own_baseR hown fun k hk => Nat.le_trans hN (hO.lt k hk).1, hl, hR.z⟩, ((((Chg.refl (Only g) w).setOwn 2 _).trans hR.chg).drew.setOwn 1 _).setOwn 2 _⟩
  · obtain ⟨l, ps, hB, hO, h3, h4⟩ := h
    refine (once_done ⟨g, 1, none⟩ 1 (by decide) _ _ w (hB.cell 1)).mono ?_
    rintro e w' ⟨he, rfl⟩
    exact ⟨he, ⟨l, ps, hB, hO, h3, h4⟩, Chg.refl _ _⟩
theorem own_zero {w : World} {b : Nat} {t : TypeId} {v : Value} (h : w.ownsRow b t 1 v 0 []) : ∃ a c, v = .slice a 0 c := (own_form h).elim fun a h => h.elim fun c h => ⟨a, c, h.1⟩
theorem own_one {w : World} {b : Nat} {t : TypeId} {v u : Value} (h : w.ownsRow b t 1 v 1 [u]) : ∃ gv c, v = .slice (some ⟨gv, 0, none⟩) 1 c ∧ gv < w.heap.size ∧ b ≤ gv ∧ w.cell? ⟨gv, 0, none⟩ = some u ∧ w.frozen? ⟨gv, 0, none⟩ = false ∧ 1 ≤ c := by
  obtain ⟨p, cap, rfl, hcap, _, h3⟩ := own_form h
  obtain ⟨gv, rfl, h4, h5, h6⟩ := h3 (by decide)
  exact ⟨gv, cap, rfl, h4, h5, (h6 0 (by decide)).1, (h6 0 (by decide)).2, hcap⟩
theorem src_one (w : World) (t : TypeId) (u : Value) : Src (w.alloc (.cells #[u] t)) (.slice (some ⟨w.heap.size, 0, none⟩) 1 1) 1 1 [u] := src_own (World.ownsRow_lit (base := w.heap.size) w #[u] 1 (Nat.le_refl _) (by decide) rfl)
theorem pts_get : ∀ {ps : List Pt} {j : Nat} (h : j < ps.length), (ps.flatMap encP)[j * 3]? = some (.int .u32 ps[j].1) ∧ (ps.flatMap encP)[j * 3 + 1]? = some (.int .i64 ps[j].2.1) ∧ (ps.flatMap encP)[j * 3 + 2]? = some (.int .i64 ps[j].2.2)
  | p :: ps, 0, _ => by simp [List.flatMap_cons]
  | p :: ps, j + 1, h => by
    obtain ⟨h1, h2, h3⟩ := pts_get (ps := ps) (j := j) (by simpa using h)
    rw [List.flatMap_cons]
    refine ⟨?_, ?_, ?_⟩
    · rw [List.getElem?_append_right (by simp; omega), show (j + 1) * 3 - (encP p).length = j * 3 by simp; omega]; simpa using h1
    · rw [List.getElem?_append_right (by simp; omega), show (j + 1) * 3 + 1 - (encP p).length = j * 3 + 1 by simp; omega]; simpa using h2
    · rw [List.getElem?_append_right (by simp; omega), show (j + 1) * 3 + 2 - (encP p).length = j * 3 + 2 by simp; omega]; simpa using h3
theorem cell_lt' {w w1 w2 : World} {a : Addr} {v : Value} (h : w.cell? a = some v) (h1 : Chg NoB w w1) (h2 : Chg NoB w1 w2) : w2.cell? a = some v := (World.cell?_of_block ((h1.trans h2).block _ (cell_lt h) id)).trans h
set_option maxHeartbeats 4000000 in
theorem order_any (h : RS N w g) (hN : N ≤ w.heap.size) (k : ByteArray) (hk : k.size ≤ 1000000) :
    Calls Tryz.prog 90 #[.pointer (some ⟨g, 0, none⟩), .string k] w fun e w' => (∃ l, e = .returned l ∧ w'.ownsRow w.heap.size 3 1 l 1 [.int .i64 0]) ∧ RO N w' g ∧ Chg (Only g) w w' := by
  have HR0 := Lib.hid (once_ring h hN)
  obtain ⟨i9, hi9, z9, s9, y9⟩ := info_parts Tryz.infI64
  clear h
  go_enter Tryz.func90, Tryz.ntmps90
  go_wp2_with fail
  refine HR0.out.mono ?_
  rintro e w1 ⟨rfl, hr, hC⟩
  have HR1 := Lib.hid hr
  have HC1 := Lib.hid hC
  clear hr hC
  go_wp2_with fail
  refine (place_any k hk w1).mono ?_
  rintro e w2 ⟨⟨x, rfl⟩, hC2⟩
  have HR2 := Lib.hid (HR1.out.st hC2)
  have HC2 : Hid (Chg (Only g) w w2) := Lib.hid (HC1.out.trans (Chg.of_no hC2))
  clear hC2 HR1 HC1 HR0
  obtain ⟨l, ps, hB, hO, hl, hz⟩ := HR2.out.ex
  obtain ⟨p_, oc, rfl, _, _, hf⟩ := own_form hO
  obtain ⟨gl, rfl, hgl, hglN, hcl⟩ := hf (by omega)
  have hc0 : ∃ c0, decide (ps[0].1 ≥ x) = c0 := ⟨_, rfl⟩
  obtain ⟨c0, hc0⟩ := hc0
  have HC0 := Lib.hid hc0
  have hN2 := HC2.out.size
  have HO := Lib.hid hO
  have HL := Lib.hid hl
  have HZ := Lib.hid hz
  have HCL := Lib.hid hcl
  have HB := Lib.hid (hB.alloc (.cells #[.bool true, .bool false] 4))
  have BB := Blk.new w2 4 #[.bool true, .bool false]
  have HA := Lib.hid (Chg.al w2 (.cells #[.bool true, .bool false] 4))
  have hz2 : (w2.alloc (.cells #[.bool true, .bool false] 4)).heap.size = w2.heap.size + 1 := by simp
  clear hc0 hB hO hz hcl hf
  go_upto_block 0 with fail
  go_wp2_with fail
  generalize w2.alloc (Obj.cells _ 4) = W at *
  have HBB := Lib.hid BB
  clear BB
  go_loopw [6, 23] (fun o i wr => ∃ k : Nat, k ≤ 2 ∧ i = .int .i64 k ∧ ∃ n : Nat, n ≤ 1 ∧ Hid ((1 ≤ k → c0 = true → n = 1) ∧ (2 ≤ k → c0 = false → n = 1)) ∧ Hid (wr.ownsRow (w2.heap.size + 1) 3 1 o n (List.replicate n (.int .i64 0))) ∧ Hid (Chg NoB W wr)) (fun _ i _ => 2 - (intOf i).toNat)
  case atStart => exact ⟨0, by omega, rfl, 0, by omega, Lib.hid ⟨fun h => by omega, fun h => by omega⟩, Lib.hid (World.ownsRow_nil _ _ _ _), Lib.hid (Chg.refl _ _)⟩
  case round =>
    obtain ⟨k, hk, rfl, n, hn, HI, HOw, HC⟩ := hrel
    by_cases hlt : k < 2
    · have hk2 : (k : Int) < 2 := by omega
      obtain ⟨b, hb, hbk⟩ : ∃ b, wr.cell? ⟨w2.heap.size, k, none⟩ = some (.bool b) ∧ (b = true ↔ k = 0) := by
        rcases (by omega : k = 0 ∨ k = 1) with rfl | rfl
        · exact ⟨true, (HBB.out.st HC.out).cell 0, by simp⟩
        · exact ⟨false, (HBB.out.st HC.out).cell 1, by simp⟩
      have HBK := Lib.hid hbk
      clear hbk
      have c5 := (HB.out.st HC.out).cell 5
      rw [HL.out] at c5
      go_upto_block 2 with fail
      go_wp2_with fail
      clear hb c5
      go_loopw [6, 32] (fun o i wr' => ∃ j : Nat, j ≤ 4 ∧ i = .int .i64 j ∧ ∃ n : Nat, n ≤ 1 ∧ Hid ((1 ≤ k → c0 = true → n = 1) ∧ (1 ≤ j → c0 = b → n = 1)) ∧ Hid (wr'.ownsRow (w2.heap.size + 1) 3 1 o n (List.replicate n (.int .i64 0))) ∧ Hid (Chg NoB W wr')) (fun _ i _ => 4 - (intOf i).toNat)
      case atStart => exact ⟨0, by omega, rfl, n, hn, Lib.hid ⟨HI.out.1, fun h => by omega⟩, HOw, HC⟩
      case round =>
        clear HI HOw HC hn
        obtain ⟨j, hj, rfl, n, hn, HI, HOw, HC⟩ := hrel
        by_cases hltj : j < 4
        · have hjl : j < ps.length := by have := HL.out; omega
          obtain ⟨g1, g2, g3⟩ := pts_get hjl
          have hjj : j * 3 + 2 < ps.length * 3 := by omega
          have d0 := cell_lt' (((HCL.out (j * 3) (by omega)).1.trans g1)) HA.out HC.out
          have d1 := cell_lt' (((HCL.out (j * 3 + 1) (by omega)).1.trans g2)) HA.out HC.out
          have d2 := cell_lt' (((HCL.out (j * 3 + 2) (by omega)).1.trans g3)) HA.out HC.out
          have hz0 := HZ.out _ (List.getElem_mem hjl)
          have hj0 : j = 0 → decide (ps[j].1 ≥ x) = c0 := fun h => by subst h; exact HC0.out
          generalize ps[j] = p at *
          obtain ⟨a, nd, kk⟩ := p
          dsimp only at *
          subst hz0
          obtain ⟨ge, hge⟩ : ∃ ge, decide (a ≥ x) = ge := ⟨_, rfl⟩
          rw [hge] at hj0
          have HJ := Lib.hid hj0
          obtain ⟨q, hq⟩ : ∃ q, (ge == b) = q := ⟨_, rfl⟩
          have HQ := Lib.hid hq
          clear hj0 g1 g2 g3 hjj
          have hC9 := Chg.al wr (.cells #[.int .u32 a, .int .i64 0, .int .i64 kk] 255)
          have HO9 := Lib.hid (HOw.out.alloc (.cells #[.int .u32 a, .int .i64 0, .int .i64 kk] 255))
          have HC9 := Lib.hid (HC.out.trans hC9)
          have B9 := Blk.new wr 255 #[.int .u32 a, .int .i64 0, .int .i64 kk]
          cases q with
          | false =>
            go_wp2_with fail
            go_roundw
            case rel =>
              refine ⟨j + 1, by omega, by go_num, n, hn, Lib.hid ⟨HI.out.1, fun _ hc => ?_⟩, HO9, HC9⟩
              rcases (by omega : j = 0 ∨ 1 ≤ j) with h0 | h0
              · have h1 := HQ.out
                rw [HJ.out h0, hc] at h1
                cases b <;> cases h1
              · exact HI.out.2 h0 hc
            case measure => simp [intOf]; omega
          | true =>
            go_wp2_with fail
            rcases (by omega : n = 0 ∨ n = 1) with rfl | rfl
            · obtain ⟨oa, oc_, rfl⟩ := own_zero HO9.out
              refine (Tryz.slices_Contains_int_empty oa oc_ 0 _).mono ?_
              rintro e w' ⟨rfl, hw⟩
              subst hw
              generalize wr.alloc (Obj.cells _ 255) = W9 at *
              have hb9 := HC9.out.size
              have e1 := B9.cell 1
              go_wp2_with (at_builtin; refine wpList_append_all rfl _ _ _ rfl (w2.heap.size + 1) 3 i9 _ 1 8 Tryz.underlying88 hi9 z9 s9 y9 rfl (by omega) _ 0 [] rfl (HO9.out.alloc _) _ 1 [.int .i64 0] rfl (src_one W9 3 (.int .i64 0)) (by intro u hu; rw [List.mem_singleton.1 hu]; rfl) (by unfold maxLen; omega) (by omega) (by simp; omega) ?_)
              intro v2 w5 hown hgrow hat
              have HO5 := Lib.hid hown
              have HC5 : Hid (Chg NoB W w5) := Lib.hid ((HC9.out.alloc _).then_ (cgrown hgrow) fun j hj hs => by have := (HO9.out.lt j hs).1; omega)
              obtain ⟨gv, c9, rfl, _⟩ := own_one hown
              clear hown hgrow hat
              go_wp2_with fail
              go_roundw
              case rel => exact ⟨j + 1, by omega, by go_num, 1, by omega, Lib.hid ⟨fun _ _ => rfl, fun _ _ => rfl⟩, HO5, HC5⟩
              case measure => simp [intOf]; omega
            · obtain ⟨gv, oc_, rfl, _, _, hcv, _⟩ := own_one HO9.out
              have ht : ((([0] : List Int).take 1).contains 0) = true := rfl
              refine (Tryz.slices_Contains_int gv 0 1 oc_ [0] 0 _ (by simp) (by simp) (fun j hj => by
                obtain rfl : j = 0 := by simpa using hj
                exact hcv)).mono ?_
              rw [ht]
              rintro e w' ⟨rfl, hw⟩
              subst hw
              clear hcv ht
              go_wp2_with fail
              go_roundw
              case rel => exact ⟨j + 1, by omega, by go_num, 1, by omega, Lib.hid ⟨fun _ _ => rfl, fun _ _ => rfl⟩, HO9, HC9⟩
              case measure => simp [intOf]; omega
        · obtain rfl : j = 4 := by omega
          go_wp2_with fail
          go_roundw
          case rel =>
            refine ⟨k + 1, by omega, by go_num, n, hn, Lib.hid ⟨fun _ hc => ?_, fun h2 hc => ?_⟩, HOw, HC⟩
            · rcases (by omega : k = 0 ∨ 1 ≤ k) with h0 | h0
              · exact HI.out.2 (by omega) (hc.trans (HBK.out.2 h0).symm)
              · exact HI.out.1 h0 hc
            · have : b = false := by
                cases hb : b with
                | false => rfl
                | true => have := HBK.out.1 hb; omega
              exact HI.out.2 (by omega) (hc.trans this.symm)
          case measure => simp [intOf]; omega
    · obtain rfl : k = 2 := by omega
      have hn1 : n = 1 := by
        cases hc : c0 with
        | true => exact HI.out.1 (by omega) hc
        | false => exact HI.out.2 (by omega) hc
      subst hn1
      have HOw2 := Lib.hid (own_baseR (b2 := w.heap.size) HOw.out fun k hk => by have := (HOw.out.lt k hk).1; omega)
      have HE : Hid (RO N wr g ∧ Chg (Only g) w wr) := Lib.hid ⟨HR2.out.st (HA.out.trans HC.out), HC2.out.trans (Chg.of_no (HA.out.trans HC.out))⟩
      obtain ⟨go_, oc_, rfl, _⟩ := own_one HOw.out
      go_wp2_with fail
      go_ret
      exact ⟨⟨_, rfl, HOw2.out⟩, HE.out.1, HE.out.2⟩
end
end Go.Proofs.YtoefffjhjmjhfaaGreat
namespace Go.Proofs.YtoefffjhjmjhfaaGreat
open Go.RowKit Go.Proofs.YtoefffjhjmjhfaaGreatW.PrintLast
attribute [local go_sem] max2_mx min2_mn max_two_ min_two_
set_option maxRecDepth 100000

section
variable {N : Nat} {w w' : World} {g : Nat} {S : Nat → Prop}
theorem owners_any (h : RS N w g) (hN : N ≤ w.heap.size) (k : ByteArray) (hk : k.size ≤ 1000000) (n : Int) (hn : 1 ≤ n) :
    Calls Tryz.prog 87 #[.pointer (some ⟨g, 0, none⟩), .string k, .int .i64 n] w fun e w' => (∃ l, e = .returned l ∧ w'.ownsRow w.heap.size 3 1 l 1 [.int .i64 0]) ∧ RO N w' g ∧ Chg (Only g) w w' := by
  have HO := Lib.hid (order_any h hN k hk)
  have hm : mn n 1 = 1 := by unfold mn; split <;> omega
  have hx : mx 0 1 = 1 := rfl
  clear h
  go_enter Tryz.func87, Tryz.ntmps87
  go_wp2_with fail
  refine HO.out.mono ?_
  rintro e w1 ⟨⟨l, rfl, hl⟩, hr, hC⟩
  have HR := Lib.hid (And.intro hr hC)
  have HL := Lib.hid hl
  obtain ⟨gv, c, rfl, _, _, _, _, hc1⟩ := own_one hl
  clear hl hr hC
  go_wp2_with fail
  go_ret
  exact ⟨⟨_, rfl, HL.out⟩, HR.out⟩
theorem owns_any (h : RS N w g) (hN : N ≤ w.heap.size) (k : ByteArray) (hk : k.size ≤ 1000000) (n : Int) (hn : 1 ≤ n) :
    Calls Tryz.prog 134 #[.pointer (some ⟨g, 0, none⟩), .int .i64 0, .string k, .int .i64 n] w fun e w' => e = .returned (.bool true) ∧ RO N w' g ∧ Chg (Only g) w w' := by
  have HO := Lib.hid (owners_any h hN k hk n hn)
  clear h
  go_enter Tryz.func134, Tryz.ntmps134
  go_wp2_with fail
  refine HO.out.mono ?_
  rintro e w1 ⟨⟨l, rfl, hl⟩, hr, hC⟩
  have HR := Lib.hid (And.intro hr hC)
  obtain ⟨gv, c, rfl, _, _, hcv, _⟩ := own_one hl
  have HV := Lib.hid hcv
  clear hl hr hC hcv
  have ht : ((([0] : List Int).take 1).contains 0) = true := rfl
  go_wp2_with fail
  refine (Tryz.slices_Contains_int gv 0 1 c [0] 0 _ (by simp) (by simp) (fun j hj => by
    obtain rfl : j = 0 := by simpa using hj
    exact HV.out)).mono ?_
  rw [ht]
  rintro e w' ⟨rfl, hw⟩
  subst hw
  go_wp2_with fail
  go_ret
  exact ⟨rfl, HR.out⟩
/-- A node that is awake: what its own operations look at. -/
structure AW (N : Nat) (w : World) (p : Pl) (c : Cg) : Prop where
  blk : Blk w p.n 75 (ndc c 0 p.st p.rg p.v p.bg p.qg p.op 0 0 (.slice none 0 0))
  rg : RS N w p.rg
  hN : N ≤ w.heap.size
  up : p.n < N
theorem nowns_any {p : Pl} {c : Cg} (hB : Blk w p.n 75 (ndc c 0 p.st p.rg p.v p.bg p.qg p.op 0 0 (.slice none 0 0))) (h : RS N w p.rg) (hN : N ≤ w.heap.size) (k : ByteArray) (hk : k.size ≤ 1000000) (hn : 1 ≤ c.o) :
    Calls Tryz.prog 77 #[.pointer (some ⟨p.n, 0, none⟩), .int .i64 0, .string k] w fun e w' => e = .returned (.bool true) ∧ RO N w' p.rg ∧ Chg (Only p.rg) w w' := by
  have HO := Lib.hid (owns_any (w := w.drew) (show RS N w.drew p.rg from h.imp (fun h => h.drew) (fun h => h.st (Chg.dr w))) hN k hk c.o hn)
  have HB := Lib.hid hB
  clear h hB
  go_enter Tryz.func77, Tryz.ntmps77
  go_upto_region 1 with fail
  refine start_ (n := 13) (S := fun w' => w'.cell? ⟨p.n, 1, none⟩ = some (.int .i64 c.o) ∧ w'.cell? ⟨p.n, 11, none⟩ = some (.pointer (some ⟨p.rg, 0, none⟩))) (ds := [11]) #[false, false, false, false, false, false, false, false, false, false, false, false, false] (by kernel_rfl) rfl rfl ⟨(HB.out.drew.cell 1), (HB.out.drew.cell 11)⟩ (fun hHeld => ?_)
  refine pure_ (i := 0) (N := some 7) (v := ?_) (a' := ?_) #[true, false, false, false, false, false, false, false, false, false, false, false, false] rfl rfl (by kernel_rfl) (fun _ _ _ h => h) (Or.inl ⟨by rfl, ?_⟩) ?_ ?_
  rotate_left
  · intro w'
    go_simp
    with_reducible rfl
  rotate_left
  · simp only [Act.put, List.setIfInBounds_toArray, List.set_cons_zero, List.set_cons_succ]
    rfl
  refine pure_ (i := 1) (N := some 8) (v := ?_) (a' := ?_) #[true, true, false, false, false, false, false, false, false, false, false, false, false] rfl rfl (by kernel_rfl) (fun _ _ _ h => h) (Or.inl ⟨by rfl, ?_⟩) ?_ ?_
  rotate_left
  · intro w'
    go_simp
    with_reducible rfl
  rotate_left
  · simp only [Act.put, List.setIfInBounds_toArray, List.set_cons_zero, List.set_cons_succ]
    rfl
  refine pure_ (i := 2) (N := some 9) (v := ?_) (a' := ?_) #[true, true, true, false, false, false, false, false, false, false, false, false, false] rfl rfl (by kernel_rfl) (fun _ _ _ h => h) (Or.inl ⟨by rfl, ?_⟩) ?_ ?_
  rotate_left
  · intro w'
    go_simp
    with_reducible rfl
  rotate_left
  · simp only [Act.put, List.setIfInBounds_toArray, List.set_cons_zero, List.set_cons_succ]
    rfl
  refine pure_ (i := 4) (N := some 11) (v := ?_) (a' := ?_) #[true, true, true, false, true, false, false, false, false, false, false, false, false] rfl rfl (by kernel_rfl) (fun _ _ _ h => h) (Or.inl ⟨by rfl, ?_⟩) ?_ ?_
  rotate_left
  · intro w'
    go_simp
    with_reducible rfl
  rotate_left
  · simp only [Act.put, List.setIfInBounds_toArray, List.set_cons_zero, List.set_cons_succ]
    rfl
  refine pure_ (i := 5) (N := some 12) (v := ?_) (a' := ?_) #[true, true, true, false, true, true, false, false, false, false, false, false, false] rfl rfl (by kernel_rfl) (fun _ _ _ h => h) (Or.inl ⟨by rfl, ?_⟩) ?_ ?_
  rotate_left
  · intro w'
    go_simp
    with_reducible rfl
  rotate_left
  · simp only [Act.put, List.setIfInBounds_toArray, List.set_cons_zero, List.set_cons_succ]
    rfl
  refine pure_ (i := 6) (N := some 13) (v := ?_) (a' := ?_) #[true, true, true, false, true, true, true, false, false, false, false, false, false] rfl rfl (by kernel_rfl) (fun _ _ _ h => h) (Or.inl ⟨by rfl, ?_⟩) ?_ ?_
  rotate_left
  · intro w'
    go_simp
    with_reducible rfl
  rotate_left
  · simp only [Act.put, List.setIfInBounds_toArray, List.set_cons_zero, List.set_cons_succ]
    rfl
  refine pure_ (i := 7) (N := some 14) (v := ?_) (a' := ?_) #[true, true, true, false, true, true, true, true, false, false, false, false, false] rfl rfl (by kernel_rfl) (fun _ _ _ h => h) (Or.inl ⟨by rfl, ?_⟩) ?_ ?_
  rotate_left
  · intro w'
    go_simp
    with_reducible rfl
  rotate_left
  · simp only [Act.put, List.setIfInBounds_toArray, List.set_cons_zero, List.set_cons_succ]
    rfl
  refine pure_ (i := 8) (N := some 15) (v := ?_) (a' := ?_) #[true, true, true, false, true, true, true, true, true, false, false, false, false] rfl rfl (by kernel_rfl) (fun _ _ _ h => h) (Or.inl ⟨by rfl, ?_⟩) ?_ ?_
  rotate_left
  · intro w'
    go_simp
    with_reducible rfl
  rotate_left
  · simp only [Act.put, List.setIfInBounds_toArray, List.set_cons_zero, List.set_cons_succ]
    rfl
  refine pure_ (i := 9) (N := some 16) (v := ?_) (a' := ?_) #[true, true, true, false, true, true, true, true, true, true, false, false, false] rfl rfl (by kernel_rfl) (fun _ _ _ h => h) (Or.inl ⟨by rfl, ?_⟩) ?_ ?_
  rotate_left
  · intro w'
    go_simp
    with_reducible rfl
  rotate_left
  · simp only [Act.put, List.setIfInBounds_toArray, List.set_cons_zero, List.set_cons_succ]
    rfl
  refine take_ (i := 3) (N := some 10) (v := ?_) (a' := ?_) #[true, true, true, true, true, true, true, true, true, true, false, false, false] rfl rfl (by kernel_rfl) (fun _ _ _ h => h) (Or.inl ⟨by rfl, ?_⟩) hHeld ?_ ?_
  rotate_left
  · rintro w' ⟨s0, s1⟩
    go_simp
    with_reducible rfl
  rotate_left
  · simp only [Act.put, List.setIfInBounds_toArray, List.set_cons_zero, List.set_cons_succ]
    rfl
  refine take_ (i := 10) (N := some 17) (v := ?_) (a' := ?_) #[true, true, true, true, true, true, true, true, true, true, true, false, false] rfl rfl (by kernel_rfl) (fun _ _ _ h => h) (Or.inl ⟨by rfl, ?_⟩) hHeld ?_ ?_
  rotate_left
  · rintro w' ⟨s0, s1⟩
    go_simp
    with_reducible rfl
  rotate_left
  · simp only [Act.put, List.setIfInBounds_toArray, List.set_cons_zero, List.set_cons_succ]
    rfl
  refine last_ (i := 11) (N := some 18) #[true, true, true, true, true, true, true, true, true, true, true, true, false] rfl rfl (by kernel_rfl) (by decide) (fun K hK => ?_)
  refine goes_ Tryz.func134 (by kernel_rfl) rfl #[.pointer (some ⟨p.rg, 0, none⟩), .int .i64 0, .string k, .int .i64 c.o] (by rfl) rfl rfl (by simp only [List.map_toArray, List.map_cons, List.map_nil]; rfl) ?_
  with_reducible refine (HO.out).mono ?_
  rintro e w1 ⟨rfl, hr, hC⟩
  refine ⟨_, rfl, ?_⟩
  have HR := Lib.hid (And.intro hr hC)
  clear hr hC
  refine hK.out _ _ ?_
  clear hK K
  refine norm_ (a' := ?_) ?_ ?_
  rotate_left
  · show Act.put _ (some 18) _ = _
    simp only [Act.put, List.setIfInBounds_toArray, List.set_cons_zero, List.set_cons_succ]
    rfl
  refine pure_ (i := 12) (N := some 6) (v := ?_) (a' := ?_) #[true, true, true, true, true, true, true, true, true, true, true, true, true] rfl rfl (by kernel_rfl) (fun _ _ _ h => h) (Or.inl ⟨by rfl, ?_⟩) ?_ ?_
  rotate_left
  · intro w'
    go_simp
    with_reducible rfl
  rotate_left
  · simp only [Act.put, List.setIfInBounds_toArray, List.set_cons_zero, List.set_cons_succ]
    rfl
  refine done_ (by kernel_rfl) ?_
  go_wp2_with fail
  go_ret
  exact ⟨rfl, HR.out.1, (Chg.of_no (Chg.dr w)).trans HR.out.2⟩
theorem coLen_none {g m : Nat} {wt last : Int} {s : Value} (hB : Blk w g 133 (coc wt last m s)) (hM : w.heap[m]? = some (.map #[] 0)) : Calls Tryz.prog 78 #[.pointer (some ⟨g, 0, none⟩)] w fun e w' => e = .returned (.int .i64 0) ∧ w' = w := by
  have c2 := hB.cell 2
  have hl := fun ty => mlen (t := 131) Tryz.underlying131 hM ty
  simp only [List.size_toArray, List.length_nil] at hl
  clear hB hM
  go_enter Tryz.func78, Tryz.ntmps78
  go_wp2_with fail
  go_ret
  exact ⟨rfl, rfl⟩
theorem client_any {p : Pl} {c : Cg} (hB : Blk w p.n 75 (ndc c 0 p.st p.rg p.v p.bg p.qg p.op 0 0 (.slice none 0 0))) (h : RS N w p.rg) (hN : N ≤ w.heap.size) (hu : p.Up) (hco : Blk w p.op 133 (coc c.wait 0 p.om (.slice none 0 0))) (hcm : w.heap[p.om]? = some (.map #[] 0)) (k : ByteArray) (hk : 1 ≤ k.size ∧ k.size ≤ 32) (hn : 1 ≤ c.o) :
    Calls Tryz.prog 33 #[.pointer (some ⟨p.n, 0, none⟩), .string k] w fun e w' => e = .returned (.int .i64 0) ∧ RO N w' p.rg ∧ Chg (Only p.rg) w w' := by
  have HO := Lib.hid (nowns_any hB h hN k (by omega) hn)
  have HB := Lib.hid hB
  have HK := Lib.hid hk
  have HN : Hid (p.n ≠ p.rg ∧ p.op ≠ p.rg ∧ p.om ≠ p.rg) := Lib.hid (by
    obtain ⟨a1, a2, a3, a4, a5, a6, b0, b1, b2, b3, b4, b5, b6, b7, b8, b9⟩ := hu
    omega)
  have HCo := Lib.hid hco
  have HCm := Lib.hid hcm
  have c9 := hB.cell 9
  clear h hB hk hco hcm
  go_enter Tryz.func33, Tryz.ntmps33
  go_wp2_with fail
  refine (may_key k HK.out _).mono ?_
  rintro e w1 ⟨rfl, hw⟩
  subst hw
  go_wp2_with fail
  refine HO.out.mono ?_
  rintro e w2 ⟨rfl, hr, hC⟩
  have HR := Lib.hid hr
  have HC := Lib.hid hC
  have n15 := (HB.out.chg hC HN.out.1).cell 15
  have HCo2 := Lib.hid (HCo.out.chg hC HN.out.2.1)
  have HCm2 := Lib.hid ((hC.block _ (map_lt HCm.out) HN.out.2.2).trans HCm.out)
  clear hr hC c9
  go_wp2_with fail
  refine (coLen_none HCo2.out HCm2.out).mono ?_
  rintro e w3_ ⟨rfl, hw⟩
  subst hw
  go_wp2_with fail
  go_ret
  exact ⟨rfl, HR.out, HC.out⟩
theorem is_me {n bx : Nat} {c : Cg} {st rg v bg qg op : Nat} {out : Value} (hB : Blk w n 75 (ndc c 0 st rg v bg qg op 0 0 out)) (hx : w.cell? ⟨bx, 0, none⟩ = some (.pointer (some ⟨n, 0, none⟩))) :
    Calls Tryz.prog 88 #[.int .i64 0, .pointer (some ⟨bx, 0, none⟩)] w fun e w' => e = .returned (.bool true) ∧ w' = w := by
  have c9 := hB.cell 9
  clear hB
  go_enter Tryz.func88, Tryz.ntmps88
  go_wp2_with fail
  go_ret
  exact ⟨rfl, rfl⟩
theorem idx_me {n bx gv cp : Nat} {c : Cg} {st rg v bg qg op : Nat} {out : Value} (hB : Blk w n 75 (ndc c 0 st rg v bg qg op 0 0 out)) (hx : w.cell? ⟨bx, 0, none⟩ = some (.pointer (some ⟨n, 0, none⟩))) (hv : w.cell? ⟨gv, 0, none⟩ = some (.int .i64 0)) :
    Calls Tryz.prog 152 #[.slice (some ⟨gv, 0, none⟩) 1 cp, .func (.func 88) #[] #[.pointer (some ⟨bx, 0, none⟩)]] w fun e w' => e = .returned (.int .i64 0) ∧ w' = w := by
  have HM := Lib.hid (is_me hB hx)
  clear hB hx
  go_enter Tryz.func152, Tryz.ntmps152
  go_wp2_with fail
  obtain ⟨wo, hwo⟩ : ∃ wo : World, wo = w := ⟨_, rfl⟩
  go_loopw [8] (fun i wr => i = .int .i64 0 ∧ wr = wo) (fun _ _ => 0)
  case atStart => exact ⟨rfl, hwo.symm⟩
  case round =>
    obtain ⟨rfl, rfl⟩ := hrel
    subst hwo
    go_wp2_with fail
    refine HM.out.mono ?_
    rintro e w1 ⟨rfl, hw⟩
    subst hw
    go_wp2_with fail
    refine bodyPost_ret (results_tmp rfl _ _ _) rfl ?_
    exact ⟨rfl, rfl⟩
theorem zero_int (w : World) : (zeroValue 3).run Tryz.prog w = .ok (.int .i64 0) w := by kernel_rfl
theorem del_me {n bx gv cp : Nat} {c : Cg} {st rg v bg qg op : Nat} {out : Value} (hB : Blk w n 75 (ndc c 0 st rg v bg qg op 0 0 out)) (hx : w.cell? ⟨bx, 0, none⟩ = some (.pointer (some ⟨n, 0, none⟩))) (hv : w.cell? ⟨gv, 0, none⟩ = some (.int .i64 0)) (hf : w.frozen? ⟨gv, 0, none⟩ = false) (hcp : 1 ≤ cp) :
    Calls Tryz.prog 86 #[.slice (some ⟨gv, 0, none⟩) 1 cp, .func (.func 88) #[] #[.pointer (some ⟨bx, 0, none⟩)]] w fun e w' => e = .returned (.slice (some ⟨gv, 0, none⟩) 0 cp) ∧ Chg (Only gv) w w' := by
  have HI := Lib.hid (idx_me (cp := cp) hB hx hv)
  have hcl := fun ty => Lib.run_clear_slice (P := Tryz.prog) w 88 3 ty (.int .i64 0) Tryz.underlying88 zero_int rfl rfl gv 0 1 cp (by decide) (fun j hj => by rw [show j = 0 from by omega]; simp [hv]) (fun j hj => by rw [show j = 0 from by omega]; exact hf)
  clear hB hx hf
  go_enter Tryz.func86, Tryz.ntmps86
  go_wp2_with fail
  refine HI.out.mono ?_
  rintro e w1 ⟨rfl, hw⟩
  subst hw
  go_upto_block 0 with fail
  obtain ⟨wo, hwo⟩ : ∃ wo : World, wo = w1 := ⟨_, rfl⟩
  go_wp2_with fail
  go_loopw [5, 6] (fun j i wr => j = .int .i64 0 ∧ i = .int .i64 1 ∧ wr = wo) (fun _ _ _ => 0)
  case atStart => exact ⟨rfl, rfl, hwo.symm⟩
  case round =>
    obtain ⟨rfl, rfl, rfl⟩ := hrel
    subst hwo
    go_wp2_with fail
    go_ret
    exact ⟨rfl, chg_setCells (S := Only gv) (.inl rfl) _ _ _ (Chg.refl _ _)⟩
theorem others_any {p : Pl} {c : Cg} (hB : Blk w p.n 75 (ndc c 0 p.st p.rg p.v p.bg p.qg p.op 0 0 (.slice none 0 0))) (h : RS N w p.rg) (hN : N ≤ w.heap.size) (hu : p.n ≠ p.rg) (k : ByteArray) (hk : k.size ≤ 1000000) (hn : 1 ≤ c.o) :
    Calls Tryz.prog 36 #[.pointer (some ⟨p.n, 0, none⟩), .string k] w fun e w' => (∃ a cp, e = .returned (.slice a 0 cp)) ∧ Chg (Only p.rg) w w' := by
  have hC0 := Chg.al w (.cells #[.pointer (some ⟨p.n, 0, none⟩)] 27)
  have HB := Lib.hid (hB.st hC0)
  have HX := Lib.hid (Blk.new w 27 #[.pointer (some ⟨p.n, 0, none⟩)])
  have hg : p.rg < w.heap.size := by
    rcases h with h | h
    · exact h.lt
    · obtain ⟨_, _, h, _⟩ := h.ex
      exact h.lt
  have HG := Lib.hid hg
  have h1 : RS N ((w.alloc (.cells #[.pointer (some ⟨p.n, 0, none⟩)] 27)).drew) p.rg := h.imp (fun h => (h.st hC0).drew) fun h => (h.st hC0).st (Chg.dr _)
  have HO := Lib.hid (owners_any h1 (by have := hC0.size; simpa using Nat.le_trans hN this) k hk c.o hn)
  have HU := Lib.hid hu
  have HC0 := Lib.hid hC0
  clear h h1 hB hu hC0 hg
  go_enter Tryz.func36, Tryz.ntmps36
  go_upto_region 1 with fail
  have hW : (w.alloc (.cells #[.pointer (some ⟨p.n, 0, none⟩)] 27)).heap.size = w.heap.size + 1 := by simp
  generalize w.alloc (Obj.cells _ 27) = W at *
  have hwp : w.heap.size ≠ p.rg := by have := HG.out; omega
  refine start_ (n := 14) (S := fun w' => w'.cell? ⟨w.heap.size, 0, none⟩ = some (.pointer (some ⟨p.n, 0, none⟩)) ∧ w'.cell? ⟨p.n, 1, none⟩ = some (.int .i64 c.o) ∧ w'.cell? ⟨p.n, 11, none⟩ = some (.pointer (some ⟨p.rg, 0, none⟩))) (ds := [12]) #[false, false, false, false, false, false, false, false, false, false, false, false, false, false] (by kernel_rfl) rfl rfl ⟨(HX.out.drew.cell 0), (HB.out.drew.cell 1), (HB.out.drew.cell 11)⟩ (fun hHeld => ?_)
  refine pure_ (i := 4) (N := some 9) (v := ?_) (a' := ?_) #[false, false, false, false, true, false, false, false, false, false, false, false, false, false] rfl rfl (by kernel_rfl) (fun _ _ _ h => h) (Or.inl ⟨by rfl, ?_⟩) ?_ ?_
  rotate_left
  · intro w'
    go_simp
    with_reducible rfl
  rotate_left
  · simp only [Act.put, List.setIfInBounds_toArray, List.set_cons_zero, List.set_cons_succ]
    rfl
  refine pure_ (i := 11) (N := some 16) (v := ?_) (a' := ?_) #[false, false, false, false, true, false, false, false, false, false, false, true, false, false] rfl rfl (by kernel_rfl) (fun _ _ _ h => h) (Or.inl ⟨by rfl, ?_⟩) ?_ ?_
  rotate_left
  · intro w'
    go_simp
    with_reducible rfl
  rotate_left
  · simp only [Act.put, List.setIfInBounds_toArray, List.set_cons_zero, List.set_cons_succ]
    rfl
  refine take_ (i := 0) (N := some 5) (v := ?_) (a' := ?_) #[true, false, false, false, true, false, false, false, false, false, false, true, false, false] rfl rfl (by kernel_rfl) (fun _ _ _ h => h) (Or.inl ⟨by rfl, ?_⟩) hHeld ?_ ?_
  rotate_left
  · rintro w' ⟨s0, s1, s2⟩
    go_simp
    with_reducible rfl
  rotate_left
  · simp only [Act.put, List.setIfInBounds_toArray, List.set_cons_zero, List.set_cons_succ]
    rfl
  refine pure_ (i := 1) (N := some 6) (v := ?_) (a' := ?_) #[true, true, false, false, true, false, false, false, false, false, false, true, false, false] rfl rfl (by kernel_rfl) (fun _ _ _ h => h) (Or.inl ⟨by rfl, ?_⟩) ?_ ?_
  rotate_left
  · intro w'
    go_simp
    with_reducible rfl
  rotate_left
  · simp only [Act.put, List.setIfInBounds_toArray, List.set_cons_zero, List.set_cons_succ]
    rfl
  refine pure_ (i := 2) (N := some 7) (v := ?_) (a' := ?_) #[true, true, true, false, true, false, false, false, false, false, false, true, false, false] rfl rfl (by kernel_rfl) (fun _ _ _ h => h) (Or.inl ⟨by rfl, ?_⟩) ?_ ?_
  rotate_left
  · intro w'
    go_simp
    with_reducible rfl
  rotate_left
  · simp only [Act.put, List.setIfInBounds_toArray, List.set_cons_zero, List.set_cons_succ]
    rfl
  refine take_ (i := 3) (N := some 8) (v := ?_) (a' := ?_) #[true, true, true, true, true, false, false, false, false, false, false, true, false, false] rfl rfl (by kernel_rfl) (fun _ _ _ h => h) (Or.inl ⟨by rfl, ?_⟩) hHeld ?_ ?_
  rotate_left
  · rintro w' ⟨s0, s1, s2⟩
    go_simp
    with_reducible rfl
  rotate_left
  · simp only [Act.put, List.setIfInBounds_toArray, List.set_cons_zero, List.set_cons_succ]
    rfl
  refine take_ (i := 5) (N := some 10) (v := ?_) (a' := ?_) #[true, true, true, true, true, true, false, false, false, false, false, true, false, false] rfl rfl (by kernel_rfl) (fun _ _ _ h => h) (Or.inl ⟨by rfl, ?_⟩) hHeld ?_ ?_
  rotate_left
  · rintro w' ⟨s0, s1, s2⟩
    go_simp
    with_reducible rfl
  rotate_left
  · simp only [Act.put, List.setIfInBounds_toArray, List.set_cons_zero, List.set_cons_succ]
    rfl
  refine pure_ (i := 6) (N := some 11) (v := ?_) (a' := ?_) #[true, true, true, true, true, true, true, false, false, false, false, true, false, false] rfl rfl (by kernel_rfl) (fun _ _ _ h => h) (Or.inl ⟨by rfl, ?_⟩) ?_ ?_
  rotate_left
  · intro w'
    go_simp
    with_reducible rfl
  rotate_left
  · simp only [Act.put, List.setIfInBounds_toArray, List.set_cons_zero, List.set_cons_succ]
    rfl
  refine pure_ (i := 7) (N := some 12) (v := ?_) (a' := ?_) #[true, true, true, true, true, true, true, true, false, false, false, true, false, false] rfl rfl (by kernel_rfl) (fun _ _ _ h => h) (Or.inl ⟨by rfl, ?_⟩) ?_ ?_
  rotate_left
  · intro w'
    go_simp
    with_reducible rfl
  rotate_left
  · simp only [Act.put, List.setIfInBounds_toArray, List.set_cons_zero, List.set_cons_succ]
    rfl
  refine pure_ (i := 8) (N := some 13) (v := ?_) (a' := ?_) #[true, true, true, true, true, true, true, true, true, false, false, true, false, false] rfl rfl (by kernel_rfl) (fun _ _ _ h => h) (Or.inl ⟨by rfl, ?_⟩) ?_ ?_
  rotate_left
  · intro w'
    go_simp
    with_reducible rfl
  rotate_left
  · simp only [Act.put, List.setIfInBounds_toArray, List.set_cons_zero, List.set_cons_succ]
    rfl
  refine take_ (i := 9) (N := some 14) (v := ?_) (a' := ?_) #[true, true, true, true, true, true, true, true, true, true, false, true, false, false] rfl rfl (by kernel_rfl) (fun _ _ _ h => h) (Or.inl ⟨by rfl, ?_⟩) hHeld ?_ ?_
  rotate_left
  · rintro w' ⟨s0, s1, s2⟩
    go_simp
    with_reducible rfl
  rotate_left
  · simp only [Act.put, List.setIfInBounds_toArray, List.set_cons_zero, List.set_cons_succ]
    rfl
  refine one_ (i := 10) (N := some 15) #[true, true, true, true, true, true, true, true, true, true, true, true, false, false] rfl rfl (by kernel_rfl) (by decide) (fun K hK => ?_)
  refine goes_ Tryz.func87 (by kernel_rfl) rfl #[.pointer (some ⟨p.rg, 0, none⟩), .string k, .int .i64 c.o] (by rfl) rfl rfl (by simp only [List.map_toArray, List.map_cons, List.map_nil]; rfl) ?_
  with_reducible refine (HO.out).mono ?_
  rintro e w1 ⟨⟨l, rfl, hl⟩, hr, hC⟩
  refine ⟨_, rfl, ?_⟩
  have HC1 := Lib.hid hC
  have HX1 := Lib.hid (HX.out.drew.chg hC hwp)
  have HB1 := Lib.hid (HB.out.drew.chg hC HU.out)
  obtain ⟨gv, cp, rfl, k1, k2, k3, k4, k5⟩ := own_one hl
  have HD := Lib.hid (del_me (cp := cp) HB1.out (HX1.out.cell 0) k3 k4 k5)
  have HK2 := Lib.hid k2
  clear hl hr hC k1 k2 k3 k4
  refine hK.out _ _ ⟨(HX1.out.cell 0), (HB1.out.cell 1), (HB1.out.cell 11)⟩ (fun hHeld => ?_)
  clear hK K
  refine norm_ (a' := ?_) ?_ ?_
  rotate_left
  · show Act.put _ (some 15) _ = _
    simp only [Act.put, List.setIfInBounds_toArray, List.set_cons_zero, List.set_cons_succ]
    rfl
  refine last_ (i := 12) (N := some 17) #[true, true, true, true, true, true, true, true, true, true, true, true, true, false] rfl rfl (by kernel_rfl) (by decide) (fun K hK => ?_)
  refine goes_ Tryz.func86 (by kernel_rfl) rfl #[.slice (some ⟨gv, 0, none⟩) 1 cp, .func (.func 88) #[] #[.pointer (some ⟨w.heap.size, 0, none⟩)]] (by rfl) rfl rfl (by simp only [List.map_toArray, List.map_cons, List.map_nil]; rfl) ?_
  with_reducible refine (HD.out).mono ?_
  rintro e w2 ⟨rfl, hC⟩
  refine ⟨_, rfl, ?_⟩
  have HC2 := Lib.hid hC
  clear hC
  refine hK.out _ _ ?_
  clear hK K
  refine norm_ (a' := ?_) ?_ ?_
  rotate_left
  · show Act.put _ (some 17) _ = _
    simp only [Act.put, List.setIfInBounds_toArray, List.set_cons_zero, List.set_cons_succ]
    rfl
  refine pure_ (i := 13) (N := some 4) (v := ?_) (a' := ?_) #[true, true, true, true, true, true, true, true, true, true, true, true, true, true] rfl rfl (by kernel_rfl) (fun _ _ _ h => h) (Or.inl ⟨by rfl, ?_⟩) ?_ ?_
  rotate_left
  · intro w'
    go_simp
    with_reducible rfl
  rotate_left
  · simp only [Act.put, List.setIfInBounds_toArray, List.set_cons_zero, List.set_cons_succ]
    rfl
  refine done_ (by kernel_rfl) ?_
  go_wp2_with fail
  go_ret
  refine ⟨⟨_, _, rfl⟩, ((Chg.of_no (HC0.out.trans (Chg.dr W))).trans HC1.out).then_ HC2.out fun j hj hs => ?_⟩
  have := HK2.out
  simp at this
  unfold Only at hs
  omega
end
end Go.Proofs.YtoefffjhjmjhfaaGreat

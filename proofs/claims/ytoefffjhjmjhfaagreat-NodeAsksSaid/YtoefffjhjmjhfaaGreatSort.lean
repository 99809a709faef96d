/- slices.SortFunc over a slice of the call's own, rows of k cells. No statement is proved here. -/
import Derived.Test.YtoefffjhjmjhfaaGreatPkData
import Derived.Test.YtoefffjhjmjhfaaGreatVectorB
import Derived.Shelf.SlSortCmp.WholeK
import Derived.Shelf.SlSortCmp.NoneTotal
namespace Go.Proofs.YtoefffjhjmjhfaaGreat
open Go.RowKit Go.Sort Go.Lib Go.Shelf
theorem sflat_length {α : Type} {enc : α → List Value} {k : Nat} (hk : ∀ x, (enc x).length = k) (d : List α) : (d.flatMap enc).length = d.length * k := by
  induction d with
  | nil => simp
  | cons x d ih => rw [List.flatMap_cons, List.length_append, hk, ih, List.length_cons, Nat.succ_mul]; omega
section
variable {α : Type} [Inhabited α] {P : Program} {ρ : Ren} {enc : α → List Value} {k : Nat}
theorem sflat_get (hk : ∀ x, (enc x).length = k) : ∀ (d : List α) (t : Nat), t < d.length * k → (d.flatMap enc)[t]? = some ((enc d.toArray[t / k]!)[t % k]!)
  | [], t, h => by simp at h
  | x :: d, t, h => by
    have hk0 : 0 < k := by
      rcases Nat.eq_zero_or_pos k with h0 | h0
      · subst h0; simp at h
      · exact h0
    rw [List.flatMap_cons]
    rcases Nat.lt_or_ge t k with h1 | h1
    · rw [List.getElem?_append_left (by rw [hk]; exact h1), Nat.div_eq_of_lt h1, Nat.mod_eq_of_lt h1]
      have hl : t < (enc x).length := by rw [hk]; exact h1
      simp [hl]
    · rw [List.getElem?_append_right (by rw [hk]; exact h1), hk]
      have h2 : t - k < d.length * k := by rw [List.length_cons, Nat.succ_mul] at h; omega
      have ih := sflat_get hk d (t - k) h2
      have e1 : t / k = (t - k) / k + 1 := by
        have : t = (t - k) + k := by omega
        rw [this, Nat.add_div_right _ hk0]
        simp
      have e2 : t % k = (t - k) % k := by
        have : t = (t - k) + k := by omega
        rw [this, Nat.add_mod_right]
        simp
      have e3 : (x :: d).toArray[(t - k) / k + 1]! = d.toArray[(t - k) / k]! := by simp [getElem!_def]
      rw [ih, e1, e2, e3]
theorem sort_chg (enc : α → List Value) (k : Nat) (w : World) (g n : Nat) (d : Array α) (os : Array Obj) : Chg (Only g) w (sortWorldK enc k w g 0 n d os) :=
  ⟨rfl, rfl, rfl, by simp [sortWorldK, Sort.grow, putRowK, putRow, mapBlock, Sort.ahead], fun b hb hg => by
    have hne : ¬ g = b := fun h => hg h.symm
    simp only [sortWorldK, Sort.grow, putRowK, putRow, mapBlock, Sort.ahead]
    rw [Array.getElem?_append_left (by simpa using hb), Array.getElem?_modify, if_neg hne]⟩
/-- The sort of a row that is the call's own. -/
structure Sorted (w : World) (base : Nat) (e : TypeId) (k : Nat) (v : Value) (enc : α → List Value) (cf : α → α → Int) (d : List α) (x : Ending) (w' : World) : Prop where
  ret : x = .returned (.tuple #[])
  ex : ∃ d' : List α, d'.Perm d ∧ d'.Pairwise (fun a b => ltOf cf b a = false) ∧ w'.ownsRow base e k v d'.length (d'.flatMap enc)
  chg : Chg (fun b => v.ownBlock = some b) w w'
theorem sort_rows (L : SlLaysF0.n6 P ρ) (aE : ∀ w, (isAgg (ρ.t 24)).run P w = .ok true w) (zE : ∀ w, (Go.sizeOf (ρ.t 24)).run P w = .ok k w) (hk : ∀ x, (enc x).length = k) (h1 : ∀ x, ∀ v ∈ enc x, v.oneCell' = true) (cf : α → α → Int) (hO : SWO (ltOf cf)) (g : Nat) (cb : Array Value)
    (eg : ∀ args w, (callFunc g args).run P w = .ok (.enter g args) w) (hcmp : ∀ w x y, Calls P g (#[.agg (enc x).toArray, .agg (enc y).toArray] ++ cb) w fun e w' => e = .returned (.int .i64 (cf x y)) ∧ Gr w w')
    {w : World} {base : Nat} {e : TypeId} {v : Value} {d : List α} (hown : w.ownsRow base e k v d.length (d.flatMap enc)) (hsz : d.length < 4611686018427387904) :
    Calls P (ρ.f 6) #[v, .func (.func g) #[] cb] w (Sorted w base e k v enc cf d) := by
  obtain ⟨hl, h⟩ := hown
  rcases h with ⟨rfl, h0⟩ | ⟨b, cap, cur, rfl, hb, hg, hn, hm, hs, ht⟩
  · obtain rfl : d = [] := List.length_eq_zero_iff.1 h0
    refine (AnyF.slices_SortFunc_none L none 0 _ w).mono ?_
    rintro x w' ⟨rfl, rfl⟩
    exact ⟨rfl, ⟨[], List.Perm.refl _, List.Pairwise.nil, by simp, .inl ⟨rfl, rfl⟩⟩, Chg.refl _ _⟩
  · have hH : HoldsK enc k w b 0 d.toArray := by
      intro j hj
      have hj' : j < d.length * k := by simpa using hj
      have hc : w.cell? ⟨b, 0 + j, none⟩ = cur[j]? := by rw [Nat.zero_add]; exact cell_of_row w b j cur e (0, 0) hg
      refine ⟨?_, by simp [World.frozen?, hg]⟩
      rw [hc, get_flatK enc k _ j (by simpa using hj'), id, ← sflat_get hk d j hj', ← ht, List.getElem?_take_of_lt hj']
      simp
    have hblk : b < w.heap.size := (Array.getElem?_eq_some_iff.1 hg).1
    have hcon := AnyQ.slices_SortFunc L k aE zE enc hk h1 cf hO g cb b 0 cap d.toArray w eg (fun m os dk _ x y => (hcmp _ x y).mono fun _ _ ⟨h1, q, os', h2⟩ => ⟨h1, q, os', h2⟩) hH hblk (by simpa using hsz)
    rw [List.size_toArray] at hcon
    refine hcon.mono ?_
    rintro x w' ⟨rfl, d', n, os, hp, hso, rfl⟩
    have hsz' : d'.size = d.length := by simpa using hp.1
    have hperm : d'.toList.Perm d := by
      have := hp.2.2
      rw [show d'.extract 0 d.length = d' by rw [← hsz']; simp] at this
      simpa using this
    refine ⟨rfl, ⟨d'.toList, hperm, ?_, ?_⟩, (sort_chg enc k w b n d' os).mono fun j _ hj => by unfold Only at hj; rw [hj]; rfl⟩
    · rw [List.pairwise_iff_getElem]
      intro i j hi hj hij
      have := hso i j (Nat.zero_le _) hij (by rw [← hsz']; simpa using hj)
      simpa [getElem!_pos, show i < d'.size by simpa using hi, show j < d'.size by simpa using hj] using this
    · have hlen : d'.toList.length = d.length := by simpa using hsz'
      refine ⟨sflat_length hk _, .inr ⟨b, cap, putCells id 0 (flatK enc k d') cur, by rw [hlen], hb, ?_, by rw [hlen]; exact hn, hm, by simp [putCells, hs], ?_⟩⟩
      · show (w.heap.modify b (onCells (putCells id 0 (flatK enc k d'))) ++ os)[b]? = _
        rw [Array.getElem?_append_left (by simpa using hblk), Array.getElem?_modify, if_pos rfl, hg]
        rfl
      · apply List.ext_getElem?
        intro t
        rcases Nat.lt_or_ge t (d'.toList.length * k) with h2 | h2
        · have h3 : t < cur.size := by
            rw [hs]
            have : d'.toList.length * k ≤ cap * k := Nat.mul_le_mul_right k (by rw [hlen]; exact hn)
            omega
          rw [List.getElem?_take_of_lt h2, sflat_get hk _ t h2, Array.getElem?_toList]
          simp only [putCells, Array.getElem?_mapIdx, Array.getElem?_eq_getElem h3, Option.map_some]
          have h4 : t < d'.size * k := by simpa using h2
          rw [if_pos (by simpa using h4), Nat.sub_zero, id, get_flatK enc k d' t h4]
        · rw [List.getElem?_eq_none (by rw [List.length_take]; exact Nat.le_trans (Nat.min_le_left _ _) h2), List.getElem?_eq_none (by rw [sflat_length hk]; exact h2)]
end
end Go.Proofs.YtoefffjhjmjhfaaGreat

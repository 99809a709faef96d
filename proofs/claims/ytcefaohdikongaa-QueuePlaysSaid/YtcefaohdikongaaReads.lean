/- Arguments in memory, read to their end: by type, whatever its kind. No statement is proved here. -/
import Derived.Test.YtcefaohdikongaaMsg
import Derived.Test.YtcefaohdikongaaArgs
import Derived.ChangeArms
namespace Go.Proofs.Ytcefaohdikongaa
open Go.RowKit Go.ChangeShapes Go.WideShapes Go.Deep

theorem list_ex {α β : Type} {f : β → α} {Q : β → Prop} : ∀ {l : List α}, (∀ x ∈ l, ∃ y, x = f y ∧ Q y) → ∃ m : List β, l = m.map f ∧ ∀ y ∈ m, Q y
  | [], _ => ⟨[], rfl, fun y hy => by cases hy⟩
  | x :: l, h => by
    obtain ⟨y, rfl, hy⟩ := h x (by simp)
    obtain ⟨m, rfl, hm⟩ := list_ex (l := l) fun z hz => h z (by simp [hz])
    exact ⟨y :: m, rfl, fun z hz => by
      rcases List.mem_cons.1 hz with rfl | hz
      · exact hy
      · exact hm z hz⟩
section
variable {H : Type} {enc : TypeId × Value → H} {P : Program} {W : World}
/-- What is read at a type, and is not too great, lies in memory as R says. -/
def Ty (enc : TypeId × Value → H) (P : Program) (W : World) (t : TypeId) (R : List D → Prop) : Prop :=
  ∀ fuel cs (x : DataW H × List MemPlace), DataW.trod enc P W 0 (fun _ => true) true fuel t cs = some x → (∀ n ∈ x.1.weights P t, n ≤ reachBytes) → ∃ ds, Rds W (fun k => k < W.heap.size) ds cs ∧ R ds
theorem Ty.mono {t : TypeId} {R S : List D → Prop} (h : Ty enc P W t R) (hRS : ∀ ds, R ds → S ds) : Ty enc P W t S := fun fuel cs x hx hw => by
  obtain ⟨ds, h1, h2⟩ := h fuel cs x hx hw
  exact ⟨ds, h1, hRS ds h2⟩
theorem ty_int {t : TypeId} {k : IntKind} (ht : P.underlying t = some (.int k)) : Ty enc P W t fun ds => ∃ n, ds = [.c (.int k n)] ∧ (Lit.int k n).wf = true := fun fuel cs x h _ => by
  obtain ⟨n, rfl, _, hw⟩ := DataW.trod_int ht h
  exact ⟨[.c (.int k n)], ⟨.c _ rfl, trivial⟩, n, rfl, hw⟩
theorem ty_bool {t : TypeId} (ht : P.underlying t = some .bool) : Ty enc P W t fun ds => ∃ b, ds = [.c (.bool b)] := fun fuel cs x h _ => by
  obtain ⟨b, rfl, _⟩ := DataW.trod_bool ht h
  exact ⟨[.c (.bool b)], ⟨.c _ rfl, trivial⟩, b, rfl⟩
theorem ty_str {t : TypeId} (ht : P.underlying t = some .string) : Ty enc P W t fun ds => ∃ s, ds = [.c (.string s)] := fun fuel cs x h _ => by
  obtain ⟨s, rfl, _, _⟩ := DataW.trod_string ht h
  exact ⟨[.c (.string s)], ⟨.c _ rfl, trivial⟩, s, rfl⟩
theorem weightsAll_mem {e : TypeId} {d : DataW H} : ∀ {l : List (DataW H)}, d ∈ l → ∀ n ∈ d.weights P e, n ∈ DataW.weightsAll P e l
  | x :: l, h, n, hn => by
    rw [DataW.weightsAll]
    rcases List.mem_cons.1 h with rfl | h
    · exact List.mem_append.2 (.inl hn)
    · exact List.mem_append.2 (.inr (weightsAll_mem h n hn))
theorem ty_slice {t e : TypeId} {n : Nat} {R : List D → Prop} (ht : P.underlying t = some (.slice e)) (hn : P.cellsOf e = n) (h0 : 0 < n) (h : Ty enc P W e R) :
    Ty enc P W t fun ds => ∃ rows, ds = [.s n rows] ∧ (∀ r ∈ rows, R r) ∧ rows.length * P.bytesOf e ≤ reachBytes := fun fuel cs x hx hw => by
  rcases open_slice ht hx with ⟨rfl, _⟩ | ⟨a, len, cap, m, n', D', Pl, rfl, _, hl, hm, hmm, rfl, hi⟩
  · exact ⟨[.s n []], ⟨.nil _, trivial⟩, [], rfl, fun r hr => absurd hr (by simp), by simp⟩
  · simp only [DataW.weights, ht] at hw
    simp only [if_true] at hmm
    have hlen : len * P.bytesOf e ≤ reachBytes := by
      have h1 := hw _ (List.mem_cons_self ..)
      simp only [List.length_map, List.length_range] at h1
      exact Nat.le_trans (Nat.mul_le_mul_right _ (by omega)) h1
    rcases Nat.eq_zero_or_pos len with rfl | hpos
    · exact ⟨[.s n []], ⟨.e _ _ _ hm, trivial⟩, [], rfl, fun r hr => absurd hr (by simp), by simp⟩
    · have key : ∀ i, ∃ q : List Value × List D, i < len → W.cells? 0 (a.add (i * n)) n = some q.1 ∧ Rds W (fun k => k < W.heap.size) q.2 q.1 ∧ R q.2 := by
        intro i
        by_cases hil : i < len
        · obtain ⟨cs', hc, htr⟩ := hi i (by omega)
          obtain ⟨ds, h1, h2⟩ := h _ _ _ htr fun k hk => hw k (List.mem_cons_of_mem _ (List.mem_append.2 (.inl (weightsAll_mem (List.mem_map.2 ⟨i, List.mem_range.2 hil, rfl⟩) k hk))))
          rw [hn] at hc
          exact ⟨(cs', ds), fun _ => ⟨hc, h1, h2⟩⟩
        · exact ⟨([], []), fun h => absurd h hil⟩
      obtain ⟨f, hf⟩ := Classical.skolem.1 key
      have hcell : ∀ i j, i < len → j < n → W.cell? ((a.add (i * n)).add j) = (f i).1[j]? := fun i j hil hj => by
        obtain ⟨_, _, hat⟩ := World.cells?_some (hf i hil).1
        exact hat j hj
      have hlenf : ∀ i, i < len → (f i).1.length = n := fun i hil => by
        obtain ⟨_, hcl, _⟩ := World.cells?_some (hf i hil).1
        exact hcl
      have h00 := hcell 0 0 hpos h0
      rw [List.getElem?_eq_getElem (by rw [hlenf 0 hpos]; exact h0)] at h00
      obtain ⟨b, off, rfl, hadd⟩ := add_plain (a := a) (by simpa [Addr.add] using h00)
      have hlt : b < W.heap.size := by
        have := lt_of_cell h00
        rwa [block_of_add, block_of_add] at this
      refine ⟨[.s n ((List.range len).map fun i => (f i).2)], ⟨?_, trivial⟩, _, rfl, fun r hr => ?_, by simpa using hlen⟩
      · have e : len = ((List.range len).map fun i => (f i).2).length := by simp
        have hR := Rd.s (w := W) (A := fun k => k < W.heap.size) n ((List.range len).map fun i => (f i).2) b off cap (fun i j => ((f i).1[j]?).getD undef) (by simpa using hl) hm (fun _ => ⟨hlt, hlt⟩) (fun i hil => by
          simp only [List.length_map, List.length_range] at hil
          simp only [List.getElem_map, List.getElem_range]
          rw [← Rds.length (hf i hil).2.1, hlenf i hil]) (fun i j hil hj => by
          simp only [List.length_map, List.length_range] at hil
          have := hcell i j hil hj
          rw [Go.Deep.add_add, hadd, ← Nat.add_assoc] at this
          rw [this, List.getElem?_eq_getElem (by rw [hlenf i hil]; exact hj)]
          rfl) (fun i hil j hj => by
          simp only [List.length_map, List.length_range] at hil
          simp only [List.getElem_map, List.getElem_range] at hj ⊢
          have hl2 := Rds.length (hf i hil).2.1
          rw [List.getElem?_eq_getElem (by omega)]
          exact (hf i hil).2.1.get hj (by omega))
        simpa using hR
      · obtain ⟨i, hi', rfl⟩ := List.mem_map.1 hr
        exact (hf i (List.mem_range.1 hi')).2.2
/-- Fields one behind the other. -/
def Offs (P : Program) : Nat → List Field → Prop
  | _, [] => True
  | o, f :: r => f.offset = o ∧ Offs P (o + P.cellsOf f.type) r
def total (P : Program) : List Field → Nat
  | [] => 0
  | f :: r => P.cellsOf f.type + total P r
def TyAll (enc : TypeId × Value → H) (P : Program) (W : World) : List Field → List (List D → Prop) → Prop
  | [], [] => True
  | f :: r, R :: Rs => Ty enc P W f.type R ∧ TyAll enc P W r Rs
  | _, _ => False
def RAll : List (List D → Prop) → List (List D) → Prop
  | [], [] => True
  | R :: Rs, d :: ds => R d ∧ RAll Rs ds
  | _, _ => False
theorem fields_rds {n : Nat} {full : List Value} : ∀ (fs : List Field) (Rs : List (List D → Prop)) (ys : List (DataW H × List MemPlace)) (o : Nat), Offs P o fs → full.length = o + total P fs → TyAll enc P W fs Rs → ys.length = fs.length →
    (∀ (i : Nat) (f : Field), fs[i]? = some f → DataW.trod enc P W 0 (fun _ => true) true n f.type ((full.drop f.offset).take (P.cellsOf f.type)) = ys[i]?) →
    (∀ k ∈ DataW.weightsEach P (fs.map (·.type)) (ys.map (·.1)), k ≤ reachBytes) → ∃ dss, Rds W (fun k => k < W.heap.size) dss.flatten (full.drop o) ∧ RAll Rs dss
  | [], [], [], o, _, hl, _, _, _, _ => ⟨[], by rw [List.drop_of_length_le (by rw [hl]; simp [total])]; trivial, trivial⟩
  | f :: fs, R :: Rs, y :: ys, o, ho, hl, hT, hy, hf, hw => by
    obtain ⟨ho1, ho2⟩ := ho
    simp only [total] at hl
    have h0 := hf 0 f rfl
    simp only [List.getElem?_cons_zero] at h0
    simp only [List.map_cons, DataW.weightsEach] at hw
    obtain ⟨d, hd, hR⟩ := hT.1 _ _ _ h0 fun k hk => hw k (List.mem_append.2 (.inl hk))
    obtain ⟨dss, hds, hRs⟩ := fields_rds fs Rs ys (o + P.cellsOf f.type) ho2 (by rw [hl, Nat.add_assoc]) hT.2 (by simpa using hy) (fun i g hg => by simpa using hf (i + 1) g (by simpa using hg)) fun k hk => hw k (List.mem_append.2 (.inr hk))
    refine ⟨d :: dss, ?_, hR, hRs⟩
    rw [List.flatten_cons]
    have e : full.drop o = (full.drop f.offset).take (P.cellsOf f.type) ++ full.drop (o + P.cellsOf f.type) := by
      rw [ho1, ← List.drop_drop, List.take_append_drop]
    rw [e]
    exact hd.append hds
  | [], _ :: _, _, _, _, _, h, _, _, _ => h.elim
  | _ :: _, [], _, _, _, _, h, _, _, _ => h.elim
  | [], [], _ :: _, _, _, _, _, h, _, _ => by simp at h
  | _ :: _, _ :: _, [], _, _, _, _, h, _, _ => by simp at h
theorem ty_struct {t : TypeId} {fs : Array Field} {Rs : List (List D → Prop)} (ht : P.underlying t = some (.struct fs)) (ho : Offs P 0 fs.toList) (hz : P.cellsOf t = total P fs.toList) (hT : TyAll enc P W fs.toList Rs) :
    Ty enc P W t fun ds => ∃ dss, ds = dss.flatten ∧ RAll Rs dss := fun fuel cs x hx hw => by
  obtain ⟨xs, n, _, rfl, hl, hlen, hf⟩ := DataW.trod_struct ht hx
  simp only [DataW.weights, ht] at hw
  obtain ⟨dss, h1, h2⟩ := fields_rds (n := n) (full := cs) fs.toList Rs xs 0 ho (by omega) hT (by simpa using hlen) (fun i f hg => hf i f (by simpa using hg)) hw
  exact ⟨_, by simpa using h1, dss, rfl, h2⟩
end
end Go.Proofs.Ytcefaohdikongaa

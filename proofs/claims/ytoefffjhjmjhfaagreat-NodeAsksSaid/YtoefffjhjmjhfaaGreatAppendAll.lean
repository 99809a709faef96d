/- append of rows that may be none. No statement is proved here. -/
import Derived.Test.YtoefffjhjmjhfaaGreatPkBytes
import Derived.Laws.OwnMore
import Derived.Maps.AppendAt
namespace Go.Proofs.YtoefffjhjmjhfaaGreat
open Go.RowKit

/-- What is to be appended: nothing, or cells in memory. -/
def Src (w : World) (v : Value) (m size : Nat) (ys : List Value) : Prop := (v = .slice none 0 0 ∧ m = 0 ∧ ys = []) ∨ ∃ ad c, v = .slice (some ad) m c ∧ ys.length = m * size ∧ ∀ j u, ys[j]? = some u → w.cell? (ad.add j) = some u
theorem wp_append_all {P : Program} {w : World} {o : Oper} {a : Act} {K : Act → World → Prop} {Q : Exit → Act → World → Prop} (s x : Operand) (t : TypeId) (ho : o.op = .call { callee := .builtin .append, args := #[s, x], argTypes := #[t, t] })
    (base : Nat) (e : TypeId) (i : TypeInfo) (z : Value) (size bytes : Nat) (ht : P.underlying t = some (.slice e)) (hi : P.info? e = some i) (hz : i.zero = some z) (hsize : i.size = size) (hby : i.bytes = bytes) (hzs : z.cells.size = size) (hsz : 0 < size)
    (v : Value) (n : Nat) (xs : List Value) (hs : a.eval s = v) (hown : w.ownsRow base e size v n xs) (src : Value) (m : Nat) (ys : List Value) (hx : a.eval x = src) (hsrc : Src w src m size ys) (h1 : ∀ u ∈ ys, u.oneCell' = true)
    (h63 : n + m ≤ maxLen) (hbytes : (n + m) * bytes ≤ 140737488355328) (hbase : base ≤ w.heap.size)
    (h : ∀ v' w', w'.ownsRow base e size v' (n + m) (xs ++ ys) → w.grownBy w' v.ownBlock → (v'.ownBlock = v.ownBlock ∨ v'.ownBlock = some w.heap.size) → K (a.put o.dst v') w') : o.wp P a w K Q := by
  rcases hsrc with ⟨rfl, rfl, rfl⟩ | ⟨ad, c, rfl, hl, hc⟩
  · have hr := run_append_owned_none (P := P) (w := w) base t o.type e i size ht hi v n xs hown
    unfold Oper.wp execOp
    simp only [ho, resolve, invoke, builtin, Sem.run_bind, Sem.run_pure, Result.andThen_ok, List.map_toArray, List.map_cons, List.map_nil, hs, hx, hr]
    exact h v w (by simpa using hown) (World.grownBy.refl _ _) (.inl rfl)
  · obtain ⟨v', w', hr, h2, h3, _, h5⟩ := run_append_own_at (P := P) w base t o.type e i z size bytes ht hi hz hsize hby hzs hsz v n xs hown ad m c ys hl hc h1 h63 hbytes hbase
    unfold Oper.wp execOp
    simp only [ho, resolve, invoke, builtin, Sem.run_bind, Sem.run_pure, Result.andThen_ok, List.map_toArray, List.map_cons, List.map_nil, hs, hx, hr]
    exact h v' w' h2 h3 h5
theorem wpList_append_all {P : Program} {w : World} {ops : Array Oper} {rest : List Oper} {o : Oper} {a : Act} {Q : Exit → Act → World → Prop} (hgd : o.guard = none) (s x : Operand) (t : TypeId) (ho : o.op = .call { callee := .builtin .append, args := #[s, x], argTypes := #[t, t] })
    (base : Nat) (e : TypeId) (i : TypeInfo) (z : Value) (size bytes : Nat) (ht : P.underlying t = some (.slice e)) (hi : P.info? e = some i) (hz : i.zero = some z) (hsize : i.size = size) (hby : i.bytes = bytes) (hzs : z.cells.size = size) (hsz : 0 < size)
    (v : Value) (n : Nat) (xs : List Value) (hs : a.eval s = v) (hown : w.ownsRow base e size v n xs) (src : Value) (m : Nat) (ys : List Value) (hx : a.eval x = src) (hsrc : Src w src m size ys) (h1 : ∀ u ∈ ys, u.oneCell' = true)
    (h63 : n + m ≤ maxLen) (hbytes : (n + m) * bytes ≤ 140737488355328) (hbase : base ≤ w.heap.size)
    (h : ∀ v' w', w'.ownsRow base e size v' (n + m) (xs ++ ys) → w.grownBy w' v.ownBlock → (v'.ownBlock = v.ownBlock ∨ v'.ownBlock = some w.heap.size) → wpList P ops Q rest (a.put o.dst v') w') : wpList P ops Q (o :: rest) a w :=
  wpList_plain hgd fun _ hK => wp_append_all s x t ho base e i z size bytes ht hi hz hsize hby hzs hsz v n xs hs hown src m ys hx hsrc h1 h63 hbytes hbase fun v' w' h2 h3 h4 => hK _ _ (h v' w' h2 h3 h4)
theorem step_append_all {P : Program} {w : World} {ops : Array Oper} {o : Oper} {a : Act} {K : Act → World → Prop} {Q : Exit → Act → World → Prop} {E : Prop} (hgd : o.guard = none) (s x : Operand) (t : TypeId) (ho : o.op = .call { callee := .builtin .append, args := #[s, x], argTypes := #[t, t] })
    (base : Nat) (e : TypeId) (i : TypeInfo) (z : Value) (size bytes : Nat) (ht : P.underlying t = some (.slice e)) (hi : P.info? e = some i) (hz : i.zero = some z) (hsize : i.size = size) (hby : i.bytes = bytes) (hzs : z.cells.size = size) (hsz : 0 < size)
    (v : Value) (n : Nat) (xs : List Value) (hs : a.eval s = v) (hown : w.ownsRow base e size v n xs) (src : Value) (m : Nat) (ys : List Value) (hx : a.eval x = src) (hsrc : Src w src m size ys) (h1 : ∀ u ∈ ys, u.oneCell' = true)
    (h63 : n + m ≤ maxLen) (hbytes : (n + m) * bytes ≤ 140737488355328) (hbase : base ≤ w.heap.size)
    (h : ∀ v' w', w'.ownsRow base e size v' (n + m) (xs ++ ys) → w.grownBy w' v.ownBlock → (v'.ownBlock = v.ownBlock ∨ v'.ownBlock = some w.heap.size) → K (a.put o.dst v') w') :
    if Region.wanted o (yielded ops a.tmps) = true then Oper.wp P o a w K Q else E := by
  have hw : Region.wanted o (yielded ops a.tmps) = true := by simp [Region.wanted, hgd]
  rw [if_pos hw]
  exact wp_append_all s x t ho base e i z size bytes ht hi hz hsize hby hzs hsz v n xs hs hown src m ys hx hsrc h1 h63 hbytes hbase h
theorem src_own {w : World} {base n k : Nat} {t : TypeId} {v : Value} {xs : List Value} (h : w.ownsRow base t k v n xs) : Src w v n k xs := by
  obtain ⟨hxl, h2⟩ := h
  rcases h2 with ⟨rfl, h0⟩ | ⟨gv, cap, cur, rfl, hb, hB, hn, hc, hs, ht⟩
  · subst h0
    exact .inl ⟨rfl, rfl, List.length_eq_zero_iff.1 (by simpa using hxl)⟩
  · refine .inr ⟨_, cap, rfl, hxl, fun j u hu => ?_⟩
    rw [Addr.add_lit]
    have hj := (List.getElem?_eq_some_iff.1 hu).1
    rw [Nat.zero_add, Blk.cell (w := w) hB, ← Array.getElem?_toList, ← List.getElem?_take_of_lt (by omega : j < n * k), ht, hu]
theorem grown_nil {w w' : World} (h : w.grownBy w' (Value.slice none 0 0).ownBlock) : Chg NoB w w' := (cgrown h).mono fun _ _ hk => by cases hk
theorem own_form {w : World} {v : Value} {base n k : Nat} {t : TypeId} {xs : List Value} (h : w.ownsRow base t k v n xs) : ∃ p cap, v = .slice p n cap ∧ n ≤ cap ∧ cap ≤ maxLen ∧ (0 < n → ∃ gv, p = some ⟨gv, 0, none⟩ ∧ gv < w.heap.size ∧ base ≤ gv ∧ ∀ j, j < n * k → w.cell? ⟨gv, j, none⟩ = xs[j]? ∧ w.frozen? ⟨gv, j, none⟩ = false) := by
  obtain ⟨hxl, h2⟩ := h
  rcases h2 with ⟨rfl, h0⟩ | ⟨gv, cap, cur, rfl, hb, hB, hn, hc, hs, ht⟩
  · exact ⟨none, 0, by rw [h0], by omega, Nat.zero_le _, fun h => by omega⟩
  · refine ⟨_, cap, rfl, hn, hc, fun _ => ⟨gv, rfl, Blk.lt (w := w) hB, hb, fun j hj => ⟨?_, Blk.frozen (w := w) hB _⟩⟩⟩
    rw [Blk.cell (w := w) hB, ← Array.getElem?_toList, ← ht, List.getElem?_take_of_lt hj]
/-- Bytes that are read, to be appended. -/
theorem src_bytes {w : World} {A : Nat → Prop} {l : List UInt8} {v : Value} (h : Rd w A (bD l) v) : Src w v l.length 1 ((nums l).map (Value.int .u8)) := by
  obtain ⟨p, cap, rfl, h1, h2, h3, h4, h5⟩ := bytes_form h
  rcases h3 with ⟨rfl, rfl⟩ | ⟨b, off, rfl⟩ | ⟨a, rfl, h0⟩
  · have e : l = [] := List.length_eq_zero_iff.1 (by omega)
    subst e
    exact .inl ⟨rfl, rfl, rfl⟩
  · refine .inr ⟨_, cap, rfl, by simp [nums_length], fun j u hu => ?_⟩
    rw [Addr.add_lit]
    unfold nums at hu
    rw [List.map_map, List.getElem?_map, Option.map_eq_some_iff] at hu
    obtain ⟨z, hz, rfl⟩ := hu
    obtain ⟨hj, rfl⟩ := List.getElem?_eq_some_iff.1 hz
    exact h5 b off rfl j hj
  · have e : l = [] := List.length_eq_zero_iff.1 h0
    subst e
    exact .inr ⟨_, cap, rfl, rfl, fun j u hu => by simp [nums] at hu⟩
end Go.Proofs.YtoefffjhjmjhfaaGreat

/- Slices that read as lists of cells; what append does to a slice of the call's own, whatever the source; a cut. -/
import Derived.Test.YtfofjblkondnbaaGreatDoorChStr
import Derived.Deep.MidRow
import Derived.Maps.AppendAt
import Derived.Deep.AppendLies
import Derived.RegionTactic
import Derived.OwnWalk
import Derived.Laws.OwnMore
namespace Go.Proofs.YtfofjblkondnbaaGreatDoor.Ch
open Go.RowKit Go.Sort

/-- The cells that a slice's address leads to (no address is asked for if there are none). -/
def At (w : World) (A : Option Addr) (xs : List Value) : Prop := 0 < xs.length → ∃ b o, A = some ⟨b, o, none⟩ ∧ w.rangeAt b o xs

theorem rangeAt_below {w w' : World} {b o : Nat} {xs : List Value} (h : w.rangeAt b o xs) (hb : Below w.heap.size w w') : w'.rangeAt b o xs := fun j v hj => cell_below hb (h j v hj)
theorem At.below {w w' : World} {A : Option Addr} {xs : List Value} (h : At w A xs) (hb : Below w.heap.size w w') : At w' A xs := fun h0 => by
  obtain ⟨b, o, e, hr⟩ := h h0
  exact ⟨b, o, e, rangeAt_below hr hb⟩
theorem At.nil (w : World) (A : Option Addr) : At w A [] := fun h => absurd h (by simp)
theorem At.of_own {w : World} {B e size n c : Nat} {A : Option Addr} {xs : List Value} (h : w.ownsRow B e size (.slice A n c) n xs) : At w A xs := fun h0 => by
  rcases h.2 with ⟨hv, hn⟩ | ⟨g, cap, cur, hv, _, hg, r1, r2, r3, r4⟩
  · subst hn; have := h.1; omega
  · injection hv with hA
    refine ⟨g, 0, hA, fun j v hj => ?_⟩
    rw [Nat.zero_add, cell_of_row w g j cur e (0, 0) hg]
    rw [← r4, List.getElem?_take] at hj
    split at hj
    · simpa using hj
    · cases hj
theorem rangeAt_drop {w : World} {b o : Nat} {xs : List Value} (h : w.rangeAt b o xs) (k : Nat) : w.rangeAt b (o + k) (xs.drop k) := fun j v hj => by
  rw [List.getElem?_drop] at hj
  have := h (k + j) v hj
  rwa [← Nat.add_assoc] at this
theorem rangeAt_take {w : World} {b o : Nat} {xs : List Value} (h : w.rangeAt b o xs) (k : Nat) : w.rangeAt b o (xs.take k) := fun j v hj => by
  rw [List.getElem?_take] at hj
  split at hj
  · exact h j v hj
  · cases hj
theorem At.take {w : World} {A : Option Addr} {xs : List Value} (h : At w A xs) (k : Nat) : At w A (xs.take k) := fun h0 => by
  obtain ⟨b, o, e, hr⟩ := h (by rw [List.length_take] at h0; omega)
  exact ⟨b, o, e, rangeAt_take hr k⟩

section
variable {P : Program} (w : World)

theorem append_nothing (base : Nat) (t ty e : TypeId) (i : TypeInfo) (size : Nat) (ht : P.underlying t = some (.slice e)) (hi : P.info? e = some i)
    (v : Value) (n : Nat) (xs : List Value) (hown : w.ownsRow base e size v n xs) (c : Nat) : (Builtin.append_ #[t, t] ty #[v, .slice none 0 c]).run P w = .ok v w := by
  rcases hown.2 with ⟨rfl, rfl⟩ | ⟨g, cap, cur, rfl, _, _, hnc, _⟩
  · simp [Builtin.append_, run_underlying ht, sizeOf, typeInfo, hi, Builtin.lenOf, Builtin.firstCells]
  · simp [Builtin.append_, run_underlying ht, sizeOf, typeInfo, hi, Builtin.lenOf, Builtin.firstCells, hnc, storeCells]

/-- append of a slice to one of the call's own. -/
theorem append_run (base : Nat) (t ty e : TypeId) (i : TypeInfo) (z : Value) (size bytes : Nat) (ht : P.underlying t = some (.slice e)) (hi : P.info? e = some i) (hz : i.zero = some z)
    (hsize : i.size = size) (hby : i.bytes = bytes) (hzs : z.cells.size = size) (hsz : 0 < size)
    (v : Value) (n : Nat) (xs : List Value) (hown : w.ownsRow base e size v n xs)
    (A : Option Addr) (m c : Nat) (news : List Value) (hl : news.length = m * size) (hr : At w A news) (h1 : ∀ u ∈ news, u.oneCell' = true)
    (h63 : n + m ≤ maxLen) (hbytes : (n + m) * bytes ≤ 140737488355328) (hbase : base ≤ w.heap.size) :
    ∃ v' w', (Builtin.append_ #[t, t] ty #[v, .slice A m c]).run P w = .ok v' w' ∧ w'.ownsRow base e size v' (n + m) (xs ++ news) ∧ w.grownBy w' v.ownBlock ∧
      (v'.ownBlock = v.ownBlock ∨ v'.ownBlock = some w.heap.size) := by
  have nothing : m = 0 → news = [] := fun h => List.eq_nil_of_length_eq_zero (by rw [hl, h]; simp)
  cases A with
  | none =>
    have hn : news = [] := by
      rcases Nat.eq_zero_or_pos news.length with h0 | h0
      · exact List.eq_nil_of_length_eq_zero h0
      · obtain ⟨b, o, hh, _⟩ := hr h0; cases hh
    subst hn
    have hm : m = 0 := by
      rcases Nat.eq_zero_or_pos m with h0 | h0
      · exact h0
      · have := Nat.mul_pos h0 hsz; simp at hl; omega
    subst hm
    exact ⟨v, w, append_nothing w base t ty e i size ht hi v n xs hown c, by simpa using hown, World.grownBy.refl w _, .inl rfl⟩
  | some ad =>
    have hcells : ∀ j u, news[j]? = some u → w.cell? (ad.add j) = some u := fun j u hu => by
      have hj : j < news.length := (List.getElem?_eq_some_iff.1 hu).1
      obtain ⟨b, o, hA, hc⟩ := hr (by omega)
      injection hA with hA
      subst hA
      rw [Addr.add_mid]
      exact hc j u hu
    obtain ⟨v', w', hrun, h2, h3, _, h5⟩ := run_append_own_at (P := P) w base t ty e i z size bytes ht hi hz hsize hby hzs hsz v n xs hown ad m c news hl hcells h1 h63 hbytes hbase
    exact ⟨v', w', hrun, h2, h3, h5⟩

theorem append_wp {o : Oper} {a : Act} {K : Act → World → Prop} {Q : Exit → Act → World → Prop} (s x : Operand) (t : TypeId)
    (ho : o.op = .call { callee := .builtin .append, args := #[s, x], argTypes := #[t, t] })
    (base : Nat) (e : TypeId) (i : TypeInfo) (z : Value) (size bytes : Nat) (ht : P.underlying t = some (.slice e)) (hi : P.info? e = some i) (hz : i.zero = some z)
    (hsize : i.size = size) (hby : i.bytes = bytes) (hzs : z.cells.size = size) (hsz : 0 < size)
    (v : Value) (n : Nat) (xs : List Value) (hs : a.eval s = v) (hown : w.ownsRow base e size v n xs)
    (A : Option Addr) (m c : Nat) (news : List Value) (hx : a.eval x = .slice A m c) (hl : news.length = m * size) (hr : At w A news) (h1 : ∀ u ∈ news, u.oneCell' = true)
    (h63 : n + m ≤ maxLen) (hbytes : (n + m) * bytes ≤ 140737488355328) (hbase : base ≤ w.heap.size)
    (h : ∀ v' w', w'.ownsRow base e size v' (n + m) (xs ++ news) → w.grownBy w' v.ownBlock → (v'.ownBlock = v.ownBlock ∨ v'.ownBlock = some w.heap.size) → K (a.put o.dst v') w') : o.wp P a w K Q := by
  obtain ⟨v', w', hrun, h2, h3, h4⟩ := append_run (P := P) w base t o.type e i z size bytes ht hi hz hsize hby hzs hsz v n xs hown A m c news hl hr h1 h63 hbytes hbase
  unfold Oper.wp execOp
  simp only [ho, resolve, invoke, builtin, Sem.run_bind, Sem.run_pure, Result.andThen_ok, List.map_toArray, List.map_cons, List.map_nil, hs, hx, hrun]
  exact h v' w' h2 h3 h4

theorem append_list {ops : Array Oper} {rest : List Oper} {o : Oper} {a : Act} {Q : Exit → Act → World → Prop} (hgd : o.guard = none) (s x : Operand) (t : TypeId)
    (ho : o.op = .call { callee := .builtin .append, args := #[s, x], argTypes := #[t, t] })
    (base : Nat) (e : TypeId) (i : TypeInfo) (z : Value) (size bytes : Nat) (ht : P.underlying t = some (.slice e)) (hi : P.info? e = some i) (hz : i.zero = some z)
    (hsize : i.size = size) (hby : i.bytes = bytes) (hzs : z.cells.size = size) (hsz : 0 < size)
    (v : Value) (n : Nat) (xs : List Value) (hs : a.eval s = v) (hown : w.ownsRow base e size v n xs)
    (A : Option Addr) (m c : Nat) (news : List Value) (hx : a.eval x = .slice A m c) (hl : news.length = m * size) (hr : At w A news) (h1 : ∀ u ∈ news, u.oneCell' = true)
    (h63 : n + m ≤ maxLen) (hbytes : (n + m) * bytes ≤ 140737488355328) (hbase : base ≤ w.heap.size)
    (h : ∀ v' w', w'.ownsRow base e size v' (n + m) (xs ++ news) → w.grownBy w' v.ownBlock → (v'.ownBlock = v.ownBlock ∨ v'.ownBlock = some w.heap.size) → wpList P ops Q rest (a.put o.dst v') w') : wpList P ops Q (o :: rest) a w :=
  wpList_plain hgd fun _ hK => append_wp w s x t ho base e i z size bytes ht hi hz hsize hby hzs hsz v n xs hs hown A m c news hx hl hr h1 h63 hbytes hbase fun v' w' h2 h3 h4 => hK _ _ (h v' w' h2 h3 h4)

theorem append_step {ops : Array Oper} {o : Oper} {a : Act} {K : Act → World → Prop} {Q : Exit → Act → World → Prop} {E : Prop} (hgd : o.guard = none) (s x : Operand) (t : TypeId)
    (ho : o.op = .call { callee := .builtin .append, args := #[s, x], argTypes := #[t, t] })
    (base : Nat) (e : TypeId) (i : TypeInfo) (z : Value) (size bytes : Nat) (ht : P.underlying t = some (.slice e)) (hi : P.info? e = some i) (hz : i.zero = some z)
    (hsize : i.size = size) (hby : i.bytes = bytes) (hzs : z.cells.size = size) (hsz : 0 < size)
    (v : Value) (n : Nat) (xs : List Value) (hs : a.eval s = v) (hown : w.ownsRow base e size v n xs)
    (A : Option Addr) (m c : Nat) (news : List Value) (hx : a.eval x = .slice A m c) (hl : news.length = m * size) (hr : At w A news) (h1 : ∀ u ∈ news, u.oneCell' = true)
    (h63 : n + m ≤ maxLen) (hbytes : (n + m) * bytes ≤ 140737488355328) (hbase : base ≤ w.heap.size)
    (h : ∀ v' w', w'.ownsRow base e size v' (n + m) (xs ++ news) → w.grownBy w' v.ownBlock → (v'.ownBlock = v.ownBlock ∨ v'.ownBlock = some w.heap.size) → K (a.put o.dst v') w') :
    if Region.wanted o (yielded ops a.tmps) = true then Oper.wp P o a w K Q else E := by
  have hw : Region.wanted o (yielded ops a.tmps) = true := by simp [Region.wanted, hgd]
  rw [if_pos hw]
  exact append_wp w s x t ho base e i z size bytes ht hi hz hsize hby hzs hsz v n xs hs hown A m c news hx hl hr h1 h63 hbytes hbase h
end

/-- s[m:], s[:k], s[:]: run equations for every world. -/
theorem slice_from {P : Program} {t e size : Nat} (ht : P.underlying t = some (.slice e)) (hs : (P.info? e).map (·.size) = some size) (A : Option Addr) (len c m : Nat) (hm : m ≤ len) (W : World) :
    (Instr.sliceAt t (.slice A len c) (some (.int .i64 (m : Int))) none none).run P W = .ok (.slice (if c = m then A else A.map (·.add (m * size))) (len - m) (c - m)) W := by
  have he : P.elem t = e := by simp [Program.elem, ht]
  have ht' : P.underlying t = some (.slice (P.elem t)) := by rw [he]; exact ht
  rw [run_sliceAt_slice W t _ _ _ _ ht', run_slice_l W t A len c ht' .i64 m (by omega) (by omega), he]
  cases hq : P.info? e with
  | none => rw [hq] at hs; cases hs
  | some i =>
    rw [hq] at hs
    have hsz : i.size = size := by simpa using hs
    simp [sizeOf, typeInfo, hq, hsz, Result.andThen, sliced]
theorem slice_to {P : Program} {t e size : Nat} (ht : P.underlying t = some (.slice e)) (hs : (P.info? e).map (·.size) = some size) (A : Option Addr) (len c k : Nat) (hk : k ≤ c) (W : World) :
    (Instr.sliceAt t (.slice A len c) none (some (.int .i64 (k : Int))) none).run P W = .ok (.slice A k c) W := by
  have he : P.elem t = e := by simp [Program.elem, ht]
  have ht' : P.underlying t = some (.slice (P.elem t)) := by rw [he]; exact ht
  rw [run_sliceAt_slice W t _ _ _ _ ht', run_slice_h W t A len c ht' .i64 k (by omega) (by omega), he]
  cases hq : P.info? e with
  | none => rw [hq] at hs; cases hs
  | some i =>
    simp only [sizeOf, typeInfo, hq, Sem.run_bind, Sem.run_pure, Result.andThen, run_program, sliced]
    cases A <;> simp [Addr.add]

/-- A slice literal is the call's own. -/
theorem own_lit (w : World) (t : TypeId) (size n : Nat) (cs : Array Value) (hs : cs.size = n * size) (hn : n ≤ maxLen) : (w.alloc (.cells cs t)).ownsRow w.heap.size t size (.slice (some ⟨w.heap.size, 0, none⟩) n n) n cs.toList :=
  ⟨by simpa using hs, .inr ⟨w.heap.size, n, cs, rfl, Nat.le_refl _, halloc _ _, Nat.le_refl _, hn, hs, List.take_of_length_le (by simp [hs])⟩⟩
theorem own_base {w : World} {B B' e size n : Nat} {v : Value} {xs : List Value} (h : w.ownsRow B e size v n xs) (hB : B' ≤ B) : w.ownsRow B' e size v n xs := by
  refine ⟨h.1, ?_⟩
  rcases h.2 with hn | ⟨g, cap, cur, r0, hb, rest⟩
  · exact .inl hn
  · exact .inr ⟨g, cap, cur, r0, Nat.le_trans hB hb, rest⟩
theorem own_form {w : World} {B e size n : Nat} {v : Value} {xs : List Value} (h : w.ownsRow B e size v n xs) : ∃ A c, v = .slice A n c ∧ n ≤ c ∧ c ≤ maxLen ∧ At w A xs := by
  rcases h.2 with ⟨rfl, rfl⟩ | ⟨g, cap, cur, rfl, _, _, r1, r2, _⟩
  · obtain rfl : xs = [] := List.eq_nil_of_length_eq_zero (by simpa using h.1)
    exact ⟨none, 0, rfl, Nat.le_refl _, Nat.zero_le _, At.nil _ _⟩
  · exact ⟨_, _, rfl, r1, r2, At.of_own h⟩
/-- What append leaves of a world, if the row appended to is new. -/
theorem below_grown {w w1 w2 : World} {v : Value} (h : Below w.heap.size w w1) (hg : w1.grownBy w2 v.ownBlock) (hv : ∀ k, v.ownBlock = some k → w.heap.size ≤ k) : Below w.heap.size w w2 :=
  h.grown hg h.size hv

theorem strsV_at {w : World} {A : Option Addr} {l : List Bs} (h : StrsV w A l) : At w A (l.map encStr) := fun h0 => by
  obtain ⟨b, o, e, hc⟩ := h.2 (by simpa using h0)
  refine ⟨b, o, e, fun j v hj => ?_⟩
  rw [List.getElem?_map] at hj
  have hj' : j < l.length := by
    rcases Nat.lt_or_ge j l.length with h | h
    · exact h
    · rw [List.getElem?_eq_none h] at hj; cases hj
  rw [List.getElem?_eq_getElem hj'] at hj
  simp only [Option.map_some, Option.some.injEq] at hj
  rw [hc j hj', hj]
theorem strsV_of_at {w : World} {A : Option Addr} {l : List Bs} (hl : l.length ≤ 9223372036854775807) (h : At w A (l.map encStr)) : StrsV w A l := ⟨hl, fun h0 => by
  obtain ⟨b, o, e, hc⟩ := h (by simpa using h0)
  exact ⟨b, o, e, fun j hj => hc j _ (by simp [hj])⟩⟩
theorem at_cut {w : World} {A : Option Addr} {xs : List Value} (h : At w A xs) (n size k cap : Nat) (hl : xs.length = n * size) (hk : k ≤ n) (hc : n ≤ cap) : At w (if cap = k then A else A.map (·.add (k * size))) (xs.drop (k * size)) := fun h0 => by
  rw [List.length_drop, hl] at h0
  have hkn : k < n := by
    rcases Nat.lt_or_ge k n with h' | h'
    · exact h'
    · have : n * size ≤ k * size := Nat.mul_le_mul_right _ h'
      omega
  obtain ⟨b, o, rfl, hr⟩ := h (by omega)
  rw [if_neg (by omega)]
  exact ⟨b, o + k * size, by simp [Addr.add_mid], rangeAt_drop hr _⟩
theorem one_str (l : List Bs) : ∀ u ∈ l.map encStr, u.oneCell' = true := fun u hu => by
  obtain ⟨s, _, rfl⟩ := List.mem_map.1 hu
  rfl
end Go.Proofs.YtfofjblkondnbaaGreatDoor.Ch

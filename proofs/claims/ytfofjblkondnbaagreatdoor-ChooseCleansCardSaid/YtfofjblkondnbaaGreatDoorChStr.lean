/- strings.Cut and strings.Split at one byte, in the words of the plain laws; lists of strings in memory. -/
import Derived.Test.YtfofjblkondnbaaGreatDoorChPlain
import Derived.Test.YtfofjblkondnbaaGreatDoorChBase
import Derived.Lib.SplitLaws
import Derived.Lib.IndexBytes
import Derived.Sort.Walk0
import Derived.Sort.EncStr
namespace Go.Proofs.YtfofjblkondnbaaGreatDoor.Ch
open Go.RowKit Go.Sort

theorem index_cut (c : UInt8) : ∀ s : Bs, (∃ t, (cutC c s).2 = some t ∧ Lib.index s [c] = (cutC c s).1.length) ∨ ((cutC c s).2 = none ∧ Lib.index s [c] = -1)
  | [] => .inr ⟨rfl, by simp [Lib.index]⟩
  | x :: xs => by
    have ih := index_cut c xs
    rw [Lib.index_one] at ih ⊢
    by_cases hx : x = c
    · subst hx
      exact .inl ⟨xs, by simp [cutC], by simp [Lib.indexByte, cutC]⟩
    · rcases ih with ⟨t, h1, h2⟩ | ⟨h1, h2⟩
      · refine .inl ⟨t, by simp [cutC, hx, h1], ?_⟩
        simp only [Lib.indexByte, beq_iff_eq, hx, if_false, cutC]
        rw [h2, if_neg (by omega)]
        simp
      · refine .inr ⟨by simp [cutC, hx, h1], ?_⟩
        simp only [Lib.indexByte, beq_iff_eq, hx, if_false]
        rw [h2, if_pos rfl]

theorem cut_parts (c : UInt8) (s : Bs) {t : Bs} (h : (cutC c s).2 = some t) : s.take (cutC c s).1.length = (cutC c s).1 ∧ s.drop ((cutC c s).1.length + 1) = t := by
  have hs := cutC_some c s t h
  generalize (cutC c s).1 = a at *
  subst hs
  constructor
  · simp
  · rw [List.drop_append]
    simp

theorem cut_eq (c : UInt8) (s : Bs) : Lib.cut s [c] = ((cutC c s).1, (cutC c s).2.getD [], (cutC c s).2.isSome) := by
  unfold Lib.cut
  rcases index_cut c s with ⟨t, h1, h2⟩ | ⟨h1, h2⟩
  · rw [h2, if_pos (by omega), h1]
    obtain ⟨h3, h4⟩ := cut_parts c s h1
    simp only [Int.toNat_natCast, List.length_singleton, Option.getD_some, Option.isSome_some]
    rw [h3, h4]
  · rw [h2, if_neg (by omega), h1, cutC_none c s h1]
    rfl

theorem splitC_cut (c : UInt8) : ∀ s : Bs, splitC c s = match (cutC c s).2 with
    | none => [s]
    | some t => (cutC c s).1 :: splitC c t
  | [] => rfl
  | x :: xs => by
    have ih := splitC_cut c xs
    by_cases hx : x = c
    · simp [splitC, cutC, hx]
    · simp only [splitC, cutC, if_neg hx]
      rw [ih]
      cases (cutC c xs).2 with
      | none => rfl
      | some t => rfl

theorem splitK_eq (c : UInt8) : ∀ (n : Nat) (s : Bs), s.length ≤ n → Lib.splitK [c] 0 (s.count c) s = splitC c s
  | n, s, hn => by
    rw [splitC_cut]
    rcases index_cut c s with ⟨t, h1, h2⟩ | ⟨h1, h2⟩
    · have hs := cutC_some c s t h1
      have hf := cutC_free c s
      obtain ⟨h3, h4⟩ := cut_parts c s h1
      have hcount : s.count c = t.count c + 1 := by
        conv => lhs; rw [hs]
        rw [List.count_append, List.count_eq_zero.2 hf, List.count_cons_self]; omega
      have hlen : t.length < s.length := by
        have := congrArg List.length hs
        simp only [List.length_append, List.length_cons] at this
        omega
      rw [hcount, Lib.splitK, h2, if_neg (by simp), h1]
      simp only [Int.toNat_natCast, Nat.add_zero, List.length_singleton]
      rw [h3, h4]
      cases n with
      | zero => omega
      | succ n => rw [splitK_eq c n t (by omega)]
    · have hcount : s.count c = 0 := by
        have := cutC_none c s h1
        rw [List.count_eq_zero, ← this]
        exact cutC_free c s
      rw [hcount, h1]
      rfl

theorem splitC_length (c : UInt8) : ∀ s : Bs, (splitC c s).length = s.count c + 1
  | [] => rfl
  | x :: xs => by
    have ih := splitC_length c xs
    by_cases hx : x = c
    · subst hx; simp [splitC, ih]
    · have hc : (x :: xs).count c = xs.count c := by rw [List.count_cons_of_ne hx]
      rw [hc, ← ih]
      simp only [splitC, if_neg hx]
      cases h : splitC c xs with
      | nil => exact absurd h (splitC_ne c xs)
      | cons p ps => rfl

theorem splitB_values (s : ByteArray) (c : UInt8) : (Lib.splitB ⟨#[c]⟩ 0 (Lib.countB s ⟨#[c]⟩) s).map Value.string = (splitC c s.data.toList).map encStr := by
  have h1 := Lib.splitB_data ⟨#[c]⟩ 0 (Lib.countB s ⟨#[c]⟩) s
  have h2 : Lib.countB s ⟨#[c]⟩ = s.data.toList.count c := Lib.count_one c s.data.toList
  rw [h2] at h1 ⊢
  rw [show (⟨#[c]⟩ : ByteArray).data.toList = [c] from rfl, splitK_eq c _ _ (Nat.le_refl _)] at h1
  rw [← h1, List.map_map]
  rfl
theorem splitB_count (s : ByteArray) (c : UInt8) : Lib.countB s ⟨#[c]⟩ + 1 = (splitC c s.data.toList).length := by
  have h := congrArg List.length (splitB_values s c)
  rw [List.length_map, List.length_map] at h
  rw [← h]
  have h2 : Lib.countB s ⟨#[c]⟩ = s.data.toList.count c := Lib.count_one c s.data.toList
  have h3 := congrArg List.length (Lib.splitB_data ⟨#[c]⟩ 0 (Lib.countB s ⟨#[c]⟩) s)
  rw [List.length_map, h2, show (⟨#[c]⟩ : ByteArray).data.toList = [c] from rfl, splitK_eq c _ _ (Nat.le_refl _), splitC_length] at h3
  rw [h2, h3]

/-- A slice that reads as a list of texts. -/
def StrsV (w : World) (A : Option Addr) (l : List Bs) : Prop :=
  l.length ≤ 9223372036854775807 ∧ (0 < l.length → ∃ b o, A = some ⟨b, o, none⟩ ∧ ∀ j (h : j < l.length), w.cell? ⟨b, o + j, none⟩ = some (encStr l[j]))
theorem StrsV.below {w w' : World} {A : Option Addr} {l : List Bs} (h : StrsV w A l) (hb : Below w.heap.size w w') : StrsV w' A l :=
  ⟨h.1, fun hl => by
    obtain ⟨b, o, e, hc⟩ := h.2 hl
    exact ⟨b, o, e, fun j hj => cell_below hb (hc j hj)⟩⟩
theorem StrsV.nil (w : World) (A : Option Addr) : StrsV w A [] := ⟨by simp, fun h => absurd h (by simp)⟩
theorem StrsV.at_ {w : World} {A : Option Addr} {l : List Bs} (h : StrsV w A l) (j : Nat) (hj : j < l.length) : ∃ b o, A = some ⟨b, o, none⟩ ∧ w.cell? ⟨b, o + j, none⟩ = some (encStr l[j]) := by
  obtain ⟨b, o, e, hc⟩ := h.2 (by omega)
  exact ⟨b, o, e, hc j hj⟩
theorem StrsV.made {w : World} {B : Nat} {l : List Bs} {t : TypeId} (hl : l.length ≤ 9223372036854775807) (h : w.heap[B]? = some (.cells (l.map encStr).toArray t (0, 0))) : StrsV w (some ⟨B, 0, none⟩) l :=
  ⟨hl, fun _ => ⟨B, 0, rfl, fun j hj => by simp [World.cell?, h, hj]⟩⟩
end Go.Proofs.YtfofjblkondnbaaGreatDoor.Ch

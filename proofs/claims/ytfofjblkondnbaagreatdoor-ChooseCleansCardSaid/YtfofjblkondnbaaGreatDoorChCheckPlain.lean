/- What choose.Check answers, in plain Lean. -/
import Derived.Test.YtfofjblkondnbaaGreatDoorChClean
namespace Go.Proofs.YtfofjblkondnbaaGreatDoor.Ch
open Go.RowKit Go.Sort

/-- What is wrong at a place of a list. -/
def badAt (l : List Bs) (i : Nat) : Int :=
  if isPath (l.getD i []) then (if (decide (0 < i) && decide (l.getD i [] ≤ l.getD (i - 1) [])) || !top l (l.getD i []) then 7 else 0) else 20
/-- What choose.Check answers. -/
def checkL (l : List Bs) : Int :=
  if 8 < l.length then 4 else ((List.range l.length).map (badAt l)).find? (fun z => z != 0) |>.getD 0

theorem checkL_long {l : List Bs} (h : 8 < l.length) : checkL l = 4 := by unfold checkL; rw [if_pos h]
theorem find_none {l : List Bs} : ∀ k, (∀ j, j < k → badAt l j = 0) → ((List.range k).map (badAt l)).find? (fun z => z != 0) = none
  | k, h => by
    rw [List.find?_eq_none]
    intro z hz
    obtain ⟨j, hj, rfl⟩ := List.mem_map.1 hz
    rw [h j (by simpa using hj)]
    simp
theorem checkL_end {l : List Bs} (h8 : ¬ 8 < l.length) (h : ∀ j, j < l.length → badAt l j = 0) : checkL l = 0 := by
  unfold checkL; rw [if_neg h8, find_none _ h]; rfl
theorem checkL_at {l : List Bs} {k : Nat} (h8 : ¬ 8 < l.length) (hk : k < l.length) (h : ∀ j, j < k → badAt l j = 0) (hb : badAt l k ≠ 0) : checkL l = badAt l k := by
  unfold checkL
  rw [if_neg h8]
  have hr : List.range l.length = List.range k ++ (k :: (List.range (l.length - k - 1)).map (fun x => k + 1 + x)) := by
    have h1 : List.range l.length = List.range (k + (l.length - k)) := by congr 1; omega
    rw [h1, List.range_add]
    congr 1
    have h2 : l.length - k = (l.length - k - 1) + 1 := by omega
    rw [h2, List.range_succ_eq_map]
    simp only [List.map_cons, List.map_map, Nat.add_zero]
    congr 1
    apply List.map_congr_left
    intro x _
    simp only [Function.comp]
    omega
  rw [hr, List.map_append, List.find?_append, find_none k h, List.map_cons, List.find?_cons, show (badAt l k != 0) = true from by rw [bne_iff_ne]; exact hb]
  rfl

theorem badAt_path {l : List Bs} {k : Nat} (hk : k < l.length) (h : isPath l[k] = false) : badAt l k = 20 := by
  unfold badAt; simp [List.getD_eq_getElem?_getD, hk, h]
theorem badAt_order {l : List Bs} {k : Nat} (hk : k < l.length) (h : isPath l[k] = true) (h0 : 0 < k) (ho : l[k] ≤ l[k - 1]'(by omega)) : badAt l k = 7 := by
  unfold badAt
  have e1 : l.getD k [] = l[k] := by simp [List.getD_eq_getElem?_getD, hk]
  have e2 : l.getD (k - 1) [] = l[k - 1]'(by omega) := by simp [List.getD_eq_getElem?_getD, show k - 1 < l.length from by omega]
  rw [e1, e2, if_pos h, if_pos (by simp [h0, ho])]
theorem badAt_top {l : List Bs} {k : Nat} (hk : k < l.length) (h : isPath l[k] = true) (ht : top l l[k] = false) : badAt l k = 7 := by
  unfold badAt
  have e1 : l.getD k [] = l[k] := by simp [List.getD_eq_getElem?_getD, hk]
  rw [e1, if_pos h, if_pos (by simp [ht])]
theorem badAt_ok {l : List Bs} {k : Nat} (hk : k < l.length) (h : isPath l[k] = true) (ho : 0 < k → ¬ l[k] ≤ l[k - 1]'(by omega)) (ht : top l l[k] = true) : badAt l k = 0 := by
  unfold badAt
  have e1 : l.getD k [] = l[k] := by simp [List.getD_eq_getElem?_getD, hk]
  have e2 : l.getD (k - 1) [] = l[k - 1]'(by omega) := by simp [List.getD_eq_getElem?_getD, show k - 1 < l.length from by omega]
  rw [e1, e2, if_pos h, if_neg]
  rw [ht]
  by_cases h0 : 0 < k
  · simp [ho h0]
  · simp [h0]

theorem checkL_clean {l : List Bs} (hz : (cleanL l).2 = 0) : checkL (cleanL l).1 = 0 := by
  obtain ⟨hp, hc, h8⟩ := cleanL_zero hz
  refine checkL_end (by omega) fun j hj => ?_
  have hm := (hc.mem _).1 (List.getElem_mem hj)
  refine badAt_ok hj (hp _ hm.1) (fun h0 hle => ?_) ?_
  · have := (List.pairwise_iff_getElem.1 hc.sorted) (j - 1) j (by omega) hj (by omega)
    exact absurd hle (List.not_le.2 this)
  · unfold top
    rw [List.all_eq_true]
    intro t ht
    exact List.all_eq_true.1 hm.2 t ((hc.mem t).1 ht).1
end Go.Proofs.YtfofjblkondnbaaGreatDoor.Ch

/- What wardshipref14.Clean does, in plain Lean: it puts each text in its place. -/
import Derived.Test.YtfofjblkondnbaaGreatDoorChClean
namespace Go.Proofs.YtfofjblkondnbaaGreatDoor.Ch
open Go.RowKit Go.Sort

def insAt (k : Nat) (s : Bs) (out : List Bs) : List Bs := out.take k ++ s :: out.drop k

structure InsInv (l : List Bs) (i : Nat) (out : List Bs) : Prop where
  paths : ∀ s ∈ l.take i, isPath s = true
  sorted : out.Pairwise (· < ·)
  mem : ∀ s, s ∈ out ↔ s ∈ l.take i ∧ top l s = true

theorem mem_take_succ {l : List Bs} {i : Nat} (hi : i < l.length) (s : Bs) : s ∈ l.take (i + 1) ↔ s ∈ l.take i ∨ s = l[i] := by
  rw [List.take_succ_eq_append_getElem hi, List.mem_append, List.mem_singleton]

theorem InsInv.start (l : List Bs) : InsInv l 0 [] := ⟨by simp, by simp, by simp⟩
theorem InsInv.skip {l out : List Bs} {i : Nat} (h : InsInv l i out) (hi : i < l.length) (hp : isPath l[i] = true) (ht : top l l[i] = false) : InsInv l (i + 1) out where
  paths s hs := by
    rcases (mem_take_succ hi s).1 hs with h' | rfl
    · exact h.paths s h'
    · exact hp
  sorted := h.sorted
  mem s := by
    rw [h.mem, mem_take_succ hi]
    constructor
    · rintro ⟨a, b⟩; exact ⟨.inl a, b⟩
    · rintro ⟨a | rfl, b⟩
      · exact ⟨a, b⟩
      · rw [ht] at b; cases b
theorem InsInv.dup {l out : List Bs} {i k : Nat} (h : InsInv l i out) (hi : i < l.length) (hp : isPath l[i] = true) (hk : k < out.length) (he : out[k] = l[i]) : InsInv l (i + 1) out where
  paths s hs := by
    rcases (mem_take_succ hi s).1 hs with h' | rfl
    · exact h.paths s h'
    · exact hp
  sorted := h.sorted
  mem s := by
    rw [h.mem, mem_take_succ hi]
    constructor
    · rintro ⟨a, b⟩; exact ⟨.inl a, b⟩
    · rintro ⟨a | rfl, b⟩
      · exact ⟨a, b⟩
      · exact (h.mem _).1 (he ▸ List.getElem_mem hk)
theorem InsInv.ins {l out : List Bs} {i k : Nat} (h : InsInv l i out) (hi : i < l.length) (hp : isPath l[i] = true) (ht : top l l[i] = true) (hk : k ≤ out.length)
    (hge : ∀ j, k ≤ j → (hj : j < out.length) → l[i] ≤ out[j]) (hlt : (h0 : 0 < k) → out[k - 1]'(by omega) < l[i]) (hne : (hk : k < out.length) → out[k] ≠ l[i]) : InsInv l (i + 1) (insAt k l[i] out) where
  paths s hs := by
    rcases (mem_take_succ hi s).1 hs with h' | rfl
    · exact h.paths s h'
    · exact hp
  sorted := by
    have hs := h.sorted
    have hs' := List.pairwise_iff_getElem.1 hs
    unfold insAt
    rw [List.pairwise_append]
    refine ⟨hs.sublist (List.take_sublist _ _), ?_, ?_⟩
    · rw [List.pairwise_cons]
      refine ⟨fun b hb => ?_, hs.sublist (List.drop_sublist _ _)⟩
      obtain ⟨j, hj, rfl⟩ := List.mem_iff_getElem.1 hb
      rw [List.length_drop] at hj
      rw [List.getElem_drop]
      have hkl : k < out.length := by omega
      have h1 := lt_of_le_ne (hge k (Nat.le_refl _) hkl) (fun e => hne hkl e.symm)
      rcases Nat.eq_zero_or_pos j with rfl | hj0
      · exact h1
      · exact List.lt_trans h1 (hs' k (k + j) hkl (by omega) (by omega))
    · intro a ha b hb
      obtain ⟨j, hj, rfl⟩ := List.mem_iff_getElem.1 ha
      rw [List.length_take] at hj
      rw [List.getElem_take]
      have h0 : 0 < k := by omega
      have h1 : out[j] < l[i] := by
        rcases Nat.lt_or_ge j (k - 1) with hj1 | hj1
        · exact List.lt_trans (hs' j (k - 1) (by omega) (by omega) hj1) (hlt h0)
        · have : j = k - 1 := by omega
          subst this; exact hlt h0
      rcases List.mem_cons.1 hb with rfl | hb
      · exact h1
      · obtain ⟨m, hm, rfl⟩ := List.mem_iff_getElem.1 hb
        rw [List.length_drop] at hm
        rw [List.getElem_drop]
        exact hs' j (k + m) (by omega) (by omega) (by omega)
  mem s := by
    have : s ∈ insAt k l[i] out ↔ s ∈ out ∨ s = l[i] := by
      unfold insAt
      conv => rhs; rw [← List.take_append_drop k out]
      simp only [List.mem_append, List.mem_cons]
      constructor
      · rintro (a | rfl | a)
        · exact .inl (.inl a)
        · exact .inr rfl
        · exact .inl (.inr a)
      · rintro ((a | a) | rfl)
        · exact .inl a
        · exact .inr (.inr a)
        · exact .inr (.inl rfl)
    rw [this, h.mem, mem_take_succ hi]
    constructor
    · rintro (⟨a, b⟩ | rfl)
      · exact ⟨.inl a, b⟩
      · exact ⟨.inr rfl, ht⟩
    · rintro ⟨a | rfl, b⟩
      · exact .inl ⟨a, b⟩
      · exact .inr rfl
theorem InsInv.done {l out : List Bs} (h : InsInv l l.length out) : cleanL l = if 8 < out.length then ([], 4) else (out, 0) := by
  have hp : ∀ s ∈ l, isPath s = true := fun s hs => h.paths s (by rw [List.take_length]; exact hs)
  have hc : Cleaned l out := ⟨h.sorted, fun s => by have := h.mem s; rwa [List.take_length] at this⟩
  have he := (cleaned_filter l).unique hc
  unfold cleanL
  rw [if_pos ((all_path l).2 hp), he]
theorem cleanL_path {l : List Bs} {i : Nat} (hi : i < l.length) (hp : isPath l[i] = false) : cleanL l = ([], 20) := by
  unfold cleanL
  rw [if_neg]
  intro h
  have := (all_path l).1 h l[i] (List.getElem_mem _)
  rw [hp] at this; cases this
theorem insAt_length {k : Nat} {s : Bs} {out : List Bs} (hk : k ≤ out.length) : (insAt k s out).length = out.length + 1 := by
  unfold insAt
  rw [List.length_append, List.length_cons, List.length_take, List.length_drop]; omega
end Go.Proofs.YtfofjblkondnbaaGreatDoor.Ch

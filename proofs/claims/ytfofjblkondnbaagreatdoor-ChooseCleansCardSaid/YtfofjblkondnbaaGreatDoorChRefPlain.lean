/- Plain laws of the document's answer for paths: how it reads numbers and parts. -/
import Derived.Test.YtfofjblkondnbaaGreatDoorChPlain
namespace Go.Proofs.YtfofjblkondnbaaGreatDoor.Ch

/-- How many bytes of a number's digits stand ahead; none: no number's. -/
def numAt (t : Bs) : Option Nat := if numOk (t.takeWhile isDig) then some (t.takeWhile isDig).length else none

theorem isDig_dot : isDig 46 = false := by decide

theorem tw_all {l : Bs} (h : l.all isDig = true) : l.takeWhile isDig = l := by
  induction l with
  | nil => rfl
  | cons c l ih =>
    simp only [List.all_cons, Bool.and_eq_true] at h
    rw [List.takeWhile_cons, if_pos h.1, ih h.2]
theorem tw_len {l : Bs} (h : (l.takeWhile isDig).length = l.length) : l.all isDig = true := by
  induction l with
  | nil => rfl
  | cons c l ih =>
    rw [List.takeWhile_cons] at h
    by_cases hc : isDig c = true
    · rw [if_pos hc] at h
      simp only [List.length_cons, Nat.add_right_cancel_iff] at h
      simp [hc, ih h]
    · rw [if_neg hc] at h; simp at h

theorem tw_split (seq : Bs) : ∀ rep : Bs, (46 : UInt8) ∉ rep →
    (rep.all isDig = true → (rep ++ 46 :: seq).takeWhile isDig = rep) ∧
    (rep.all isDig = false → ∃ c u, (rep ++ 46 :: seq).drop ((rep ++ 46 :: seq).takeWhile isDig).length = c :: u ∧ c ≠ 46)
  | [], _ => ⟨fun _ => by simp [isDig_dot], fun h => by simp at h⟩
  | c :: rep, h46 => by
    have ih := tw_split seq rep (fun hm => h46 (by simp [hm]))
    have hne : c ≠ 46 := fun e => h46 (by simp [e])
    by_cases hc : isDig c = true
    · constructor
      · intro h
        simp only [List.all_cons, hc, Bool.true_and] at h
        rw [List.cons_append, List.takeWhile_cons, if_pos hc, ih.1 h]
      · intro h
        simp only [List.all_cons, hc, Bool.true_and] at h
        obtain ⟨d, u, h1, h2⟩ := ih.2 h
        refine ⟨d, u, ?_, h2⟩
        rw [List.cons_append, List.takeWhile_cons, if_pos hc, List.length_cons, List.drop_succ_cons]
        exact h1
    · constructor
      · intro h; simp [hc] at h
      · intro _
        refine ⟨c, rep ++ 46 :: seq, ?_, hne⟩
        rw [List.cons_append, List.takeWhile_cons, if_neg hc]
        rfl

theorem numOk_all {l : Bs} (h : numOk l = true) : l.all isDig = true := by
  simp only [numOk, Bool.and_eq_true] at h
  exact h.1.1.2

/-- How the document's answer reads what stands behind a tilde. -/
def tagR (t : Bs) : Bool :=
  match numAt t with
  | none => false
  | some n => match t.drop n with
    | [] => false
    | c :: u => c == 46 && match numAt u with
      | none => false
      | some m => m == u.length

theorem numAt_full (u : Bs) : (match numAt u with | none => false | some m => m == u.length) = numOk u := by
  unfold numAt
  by_cases ha : u.all isDig = true
  · rw [tw_all ha]
    cases h : numOk u <;> simp
  · have hn : numOk u = false := by
      cases h : numOk u with
      | false => rfl
      | true => exact absurd (numOk_all h) ha
    rw [hn]
    split
    · rfl
    · rename_i m hm
      split at hm
      · cases hm
        rw [beq_eq_false_iff_ne]
        exact fun e => ha (tw_len e)
      · cases hm

theorem drop_nodot {t : Bs} (h : (46 : UInt8) ∉ t) (n : Nat) {c : UInt8} {u : Bs} (e : t.drop n = c :: u) : c ≠ 46 := by
  intro hc
  subst hc
  exact h (List.mem_of_mem_drop (by rw [e]; simp))

theorem tagR_eq (t : Bs) : tagR t = tagOk t := by
  unfold tagR tagOk
  cases hcut : cutC 46 t with
  | mk rep o =>
    cases o with
    | none =>
      have hr := cutC_none 46 t (by rw [hcut])
      have hf := cutC_free 46 t
      rw [hr] at hf
      dsimp only
      split
      · rfl
      · split
        · rfl
        · rename_i n _ _ c u e
          have := drop_nodot hf n e
          simp [this]
    | some seq =>
      have ht := cutC_some 46 t seq (by rw [hcut])
      have hf := cutC_free 46 t
      rw [hcut] at ht hf
      dsimp only at ht hf ⊢
      obtain ⟨h1, h2⟩ := tw_split seq rep hf
      rw [← ht] at h1 h2
      by_cases ha : rep.all isDig = true
      · have hw := h1 ha
        have hd : t.drop rep.length = 46 :: seq := by rw [ht]; simp
        unfold numAt
        rw [hw]
        cases hn : numOk rep with
        | false => simp
        | true =>
          simp only [if_true, hd, Bool.true_and]
          have := numAt_full seq
          unfold numAt at this
          simpa using this
      · have hn : numOk rep = false := by
          cases h : numOk rep with
          | false => rfl
          | true => exact absurd (numOk_all h) ha
        rw [hn, Bool.false_and]
        obtain ⟨c, u, he, hc⟩ := h2 (by simpa using ha)
        unfold numAt
        split
        · rfl
        · rename_i n hm
          split at hm
          · cases hm
            rw [he]
            simp [hc]
          · cases hm

theorem nameCh_tilde : nameCh 126 = false := by decide
theorem nameOk_notilde {s : Bs} (h : nameOk s = true) : (126 : UInt8) ∉ s := by
  intro hm
  simp only [nameOk, Bool.and_eq_true, List.all_eq_true] at h
  have := h.2 _ hm
  rw [nameCh_tilde] at this; cases this
theorem cutC_of_free (c : UInt8) : ∀ s : Bs, c ∉ s → cutC c s = (s, none)
  | [], _ => rfl
  | x :: xs, h => by
    have hx : ¬ x = c := fun e => h (by simp [e])
    have ih := cutC_of_free c xs (fun hm => h (by simp [hm]))
    simp [cutC, hx, ih]

/-- How the document's answer reads a part. -/
theorem partR_eq (s : Bs) : partOk s = (s == lostName || nameOk s || match (cutC 126 s).2 with
    | none => false
    | some t => nameOk (cutC 126 s).1 && tagR t) := by
  unfold partOk
  cases h0 : s == lostName with
  | true => rfl
  | false =>
    rw [Bool.false_or, Bool.false_or]
    cases hn : nameOk s with
    | true => rw [cutC_of_free 126 s (nameOk_notilde hn)]; simp [hn]
    | false =>
      rw [Bool.false_or]
      cases hc : cutC 126 s with
      | mk nm o =>
        cases o with
        | none =>
          have := cutC_none 126 s (by rw [hc])
          rw [hc] at this
          dsimp only at this ⊢
          rw [this]; exact hn
        | some t => simp only [tagR_eq]

/-! ### the digits one by one -/
theorem tw_get : ∀ (t : Bs) (j : Nat) (h : j < t.length), j < (t.takeWhile isDig).length → isDig t[j] = true ∧ (t.takeWhile isDig)[j]? = some t[j]
  | [], j, h, _ => by simp at h
  | c :: t, j, h, hj => by
    rw [List.takeWhile_cons] at hj ⊢
    by_cases hc : isDig c = true
    · rw [if_pos hc] at hj ⊢
      cases j with
      | zero => exact ⟨hc, rfl⟩
      | succ j =>
        simp only [List.length_cons, Nat.add_lt_add_iff_right] at h hj
        simpa using tw_get t j h hj
    · rw [if_neg hc] at hj; simp at hj
theorem tw_stop : ∀ (t : Bs) (h : (t.takeWhile isDig).length < t.length), isDig t[(t.takeWhile isDig).length] = false
  | [], h => by simp at h
  | c :: t, h => by
    by_cases hc : isDig c = true
    · have e : (c :: t).takeWhile isDig = c :: t.takeWhile isDig := by rw [List.takeWhile_cons, if_pos hc]
      have hl : (t.takeWhile isDig).length < t.length := by
        rw [e] at h; simpa using h
      have ih := tw_stop t hl
      simp only [e, List.length_cons, List.getElem_cons_succ]
      exact ih
    · have e : (c :: t).takeWhile isDig = [] := by rw [List.takeWhile_cons, if_neg hc]
      simp only [e, List.length_nil, List.getElem_cons_zero]
      simpa using hc
theorem tw_le (t : Bs) : (t.takeWhile isDig).length ≤ t.length := (List.takeWhile_prefix _).length_le

def valD (l : Bs) : Nat := l.foldl (fun n c => 10 * n + (c.toNat - 48)) 0
theorem valD_eq (l : Bs) : decVal l = valD l := rfl
theorem valD_snoc (l : Bs) (c : UInt8) : valD (l ++ [c]) = 10 * valD l + (c.toNat - 48) := by simp [valD]
theorem fold_ge : ∀ (l : Bs) (a : Nat), a ≤ l.foldl (fun n c => 10 * n + (c.toNat - 48)) a
  | [], _ => Nat.le_refl _
  | c :: l, a => by
    have := fold_ge l (10 * a + (c.toNat - 48))
    simp only [List.foldl_cons]
    omega
theorem valD_take_le (l : Bs) (k : Nat) : valD (l.take k) ≤ valD l := by
  conv => rhs; rw [← List.take_append_drop k l]
  unfold valD
  rw [List.foldl_append]
  exact fold_ge _ _

/-- What the document's number answers, in the words of its digits. -/
theorem numAt_some {t : Bs} (h0 : t.takeWhile isDig ≠ []) (h1 : (t.takeWhile isDig).length = 1 ∨ t.head? ≠ some 48) (h2 : valD (t.takeWhile isDig) ≤ 4294967295) : numAt t = some (t.takeWhile isDig).length := by
  unfold numAt
  rw [if_pos]
  have hh : (t.takeWhile isDig).head? = t.head? := by
    cases t with
    | nil => rfl
    | cons c t =>
      by_cases hc : isDig c = true
      · simp [hc]
      · rw [List.takeWhile_cons, if_neg hc] at h0; exact absurd rfl h0
  simp only [numOk, Bool.and_eq_true, decide_eq_true_eq, Bool.or_eq_true, bne_iff_ne, hh]
  have hv : decVal (t.takeWhile isDig) = valD (t.takeWhile isDig) := rfl
  exact ⟨⟨⟨by simpa using h0, List.all_takeWhile⟩, h1⟩, by omega⟩
theorem numAt_empty {t : Bs} (h0 : t.takeWhile isDig = []) : numAt t = none := by
  unfold numAt; rw [h0, if_neg (by decide)]
theorem numAt_big {t : Bs} (k : Nat) (h : 4294967295 < valD ((t.takeWhile isDig).take k)) : numAt t = none := by
  unfold numAt
  rw [if_neg]
  intro hn
  simp only [numOk, Bool.and_eq_true, decide_eq_true_eq] at hn
  have := valD_take_le (t.takeWhile isDig) k
  have hv : decVal (t.takeWhile isDig) = valD (t.takeWhile isDig) := rfl
  omega
theorem numAt_zero {t : Bs} (h : 2 ≤ (t.takeWhile isDig).length) (h0 : t.head? = some 48) : numAt t = none := by
  unfold numAt
  rw [if_neg]
  intro hn
  simp only [numOk, Bool.and_eq_true, decide_eq_true_eq, Bool.or_eq_true, bne_iff_ne] at hn
  rcases hn.1.2 with h1 | h1
  · omega
  · apply h1
    cases t with
    | nil => simp at h0
    | cons c t =>
      have hc : c = 48 := by simpa using h0
      subst hc
      rw [List.takeWhile_cons, if_pos (by decide)]
      rfl
end Go.Proofs.YtfofjblkondnbaaGreatDoor.Ch

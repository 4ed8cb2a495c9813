/- The walk of choose.Clean. -/
import Derived.Test.YtfofjblkondnbaaGreatDoorChWithin
import Derived.Test.YtfofjblkondnbaaGreatDoorChSeq
import Derived.Lib.RowBridge
namespace Go.Proofs.YtfofjblkondnbaaGreatDoor.Ch
open Go.RowKit Go.Sort

/-! ### what is sorted and compacted -/
theorem le_trans' {a b c : Bs} (h : a ≤ b) (k : b ≤ c) : a ≤ c := List.le_trans h k
theorem lt_of_le_ne {a b : Bs} (h : a ≤ b) (hn : a ≠ b) : a < b := by
  rcases Classical.em (a < b) with h' | h'
  · exact h'
  · exact absurd (List.le_antisymm h (List.not_lt.1 h')) hn
theorem lt_of_le_lt {a b c : Bs} (h : a ≤ b) (k : b < c) : a < c := List.lt_of_le_of_lt h k

theorem compactUpTo_facts (d : Array Bs) (hs : ∀ i j, i ≤ j → j < d.size → d[i]! ≤ d[j]!) : ∀ m, m ≤ d.size → (Lib.compactUpTo d m).Pairwise (· < ·) ∧ ∀ x, x ∈ Lib.compactUpTo d m ↔ ∃ j, j < m ∧ d[j]! = x
  | 0, _ => ⟨by simp [Lib.compactUpTo], fun x => by simp [Lib.compactUpTo]⟩
  | m + 1, hm => by
    obtain ⟨h1, h2⟩ := compactUpTo_facts d hs m (by omega)
    rw [Lib.compactUpTo_succ]
    by_cases hk : Lib.keeps d m = true
    · rw [if_pos hk]
      refine ⟨?_, fun x => ?_⟩
      · rw [List.pairwise_append]
        refine ⟨h1, by simp, fun x hx y hy => ?_⟩
        obtain ⟨j, hj, rfl⟩ := (h2 x).1 hx
        obtain rfl : y = d[m]! := by simpa using hy
        have hne : d[m]! ≠ d[m - 1]! := by
          intro e
          rw [Lib.keeps_neg (by omega) e] at hk; cases hk
        exact lt_of_le_lt (hs j (m - 1) (by omega) (by omega)) (lt_of_le_ne (hs (m - 1) m (by omega) (by omega)) (fun e => hne e.symm))
      · rw [List.mem_append, h2]
        constructor
        · rintro (⟨j, hj, e⟩ | hx)
          · exact ⟨j, by omega, e⟩
          · exact ⟨m, by omega, by simpa using (List.mem_singleton.1 hx).symm⟩
        · rintro ⟨j, hj, e⟩
          by_cases hjm : j = m
          · subst hjm; exact .inr (by simp [e])
          · exact .inl ⟨j, by omega, e⟩
    · rw [if_neg hk, List.append_nil]
      have he : 0 < m ∧ d[m]! = d[m - 1]! := by
        rcases Nat.eq_zero_or_pos m with h0 | h0
        · subst h0; exact absurd (Lib.keeps_lt_one d 0 (by omega)) hk
        · refine ⟨h0, ?_⟩
          rcases Classical.em (d[m]! = d[m - 1]!) with e | e
          · exact e
          · exact absurd (Lib.keeps_pos e) hk
      refine ⟨h1, fun x => ?_⟩
      rw [h2]
      constructor
      · rintro ⟨j, hj, e⟩; exact ⟨j, by omega, e⟩
      · rintro ⟨j, hj, e⟩
        by_cases hjm : j = m
        · subst hjm; exact ⟨j - 1, by omega, by rw [← he.2, e]⟩
        · exact ⟨j, by omega, e⟩

/-- the texts in order, each once -/
def sortC (l : List Bs) : List Bs := Lib.compact (sortL l)

theorem sortL_mem (l : List Bs) (x : Bs) : x ∈ sortL l ↔ x ∈ l := (List.mergeSort_perm _ _).mem_iff
theorem sortL_sorted (l : List Bs) : (sortL l).Pairwise (· ≤ ·) := by
  have := List.pairwise_mergeSort (le := fun x y : Bs => decide (x ≤ y)) (fun a b c h k => by simp at h k ⊢; exact le_trans' h k) (fun a b => by simp; exact List.le_total a b) l
  simpa [sortL] using this

theorem sortC_facts (l : List Bs) : (sortC l).Pairwise (· < ·) ∧ ∀ x, x ∈ sortC l ↔ x ∈ l := by
  have hp := sortL_sorted l
  have h := compactUpTo_facts (sortL l).toArray (fun i j hij hj => by
    have hj' : j < (sortL l).length := by simpa using hj
    rcases Nat.lt_or_eq_of_le hij with hlt | rfl
    · have := (List.pairwise_iff_getElem.1 hp) i j (by omega) hj' hlt
      simpa [getElem!_pos, hj', show i < (sortL l).length from by omega] using this
    · exact List.le_refl _) (sortL l).length (by simp)
  refine ⟨h.1, fun x => ?_⟩
  show x ∈ Lib.compactUpTo _ _ ↔ _
  rw [h.2, ← sortL_mem l x, List.mem_iff_getElem]
  constructor
  · rintro ⟨j, hj, e⟩; exact ⟨j, hj, by simpa [getElem!_pos, hj] using e⟩
  · rintro ⟨j, hj, e⟩; exact ⟨j, hj, by simpa [getElem!_pos, hj] using e⟩

/-- What choose.Clean answers. -/
def cleanL (l : List Bs) : List Bs × Int :=
  if (sortC l).all isPath then (if 8 < ((sortC l).filter (top (sortC l))).length then ([], 4) else ((sortC l).filter (top (sortC l)), 0)) else ([], 20)

theorem top_mem {a b : List Bs} (h : ∀ x, x ∈ a ↔ x ∈ b) (s : Bs) : top a s = top b s := by
  unfold top
  rw [Bool.eq_iff_iff, List.all_eq_true, List.all_eq_true]
  exact ⟨fun hh t ht => hh t ((h t).2 ht), fun hh t ht => hh t ((h t).1 ht)⟩

theorem cleaned_filter (l : List Bs) : Cleaned l ((sortC l).filter (top (sortC l))) where
  sorted := (sortC_facts l).1.filter _
  mem s := by
    rw [List.mem_filter, (sortC_facts l).2, top_mem (sortC_facts l).2]

theorem all_path (l : List Bs) : (sortC l).all isPath = true ↔ ∀ s ∈ l, isPath s = true := by
  rw [List.all_eq_true]
  exact ⟨fun h s hs => h s (((sortC_facts l).2 s).2 hs), fun h s hs => h s (((sortC_facts l).2 s).1 hs)⟩

theorem cleanL_zero {l : List Bs} (h : (cleanL l).2 = 0) : (∀ s ∈ l, isPath s = true) ∧ Cleaned l (cleanL l).1 ∧ (cleanL l).1.length ≤ 8 := by
  unfold cleanL at h ⊢
  split at h
  · rename_i hp
    rw [if_pos hp]
    split at h
    · cases h
    · rename_i h8
      rw [if_neg h8]
      exact ⟨(all_path l).1 hp, cleaned_filter l, by dsimp only; omega⟩
  · cases h
theorem cleanL_not {l : List Bs} (h : (cleanL l).2 ≠ 0) : (cleanL l).1 = [] := by
  unfold cleanL at h ⊢
  split
  · rename_i hp
    rw [if_pos hp] at h
    split
    · rfl
    · rename_i h8; rw [if_neg h8] at h; exact absurd rfl h
  · rfl

/-! ### slices.Compact -/
def CompactPost (l : List Bs) (B : Nat) (w : World) (e : Ending) (w' : World) : Prop :=
  ∃ A c, e = .returned (.slice A (Lib.compact l).length c) ∧ StrsV w' A (Lib.compact l) ∧ Below B w w'

theorem compact_any (l : List Bs) (v : Value) (B : Nat) (w : World) (hl : l.length ≤ 9223372036854775807) (hB : B ≤ w.heap.size) (hrow : w.ownsRow B 9 1 v l.length (l.map encStr)) :
    Calls Tryz.prog 57 #[v] w (CompactPost l B w) := by
  rcases hrow.2 with ⟨rfl, h0⟩ | ⟨gb, cap, cur, rfl, hbase, hgb, r1, r2, r3, r4⟩
  · obtain rfl : l = [] := List.length_eq_zero_iff.1 h0
    refine (Tryz.slices_Compact_string_empty none 0 w).mono fun e w' ⟨h1, h2⟩ => ?_
    exact ⟨none, 0, by simpa [Lib.compact, Lib.compactUpTo] using h1, by simpa [Lib.compact, Lib.compactUpTo] using StrsV.nil w' none, h2 ▸ Below.refl _ _⟩
  · have hH : Holds encStr w gb 0 l.toArray := holds_of_block hgb (by simpa using r4)
    have hgl := (Array.getElem?_eq_some_iff.1 hgb).1
    refine (Tryz.slices_Compact_string gb 0 cap l w hH hl r1).mono fun e w' ⟨h1, q, h2⟩ => ?_
    have hle : (Lib.compact l).length ≤ l.length := Lib.compact_length_le l
    have hsz : (Lib.compact l ++ List.replicate (l.length - (Lib.compact l).length) []).toArray.size = l.toArray.size := by simp; omega
    refine ⟨_, _, h1, ⟨by omega, fun hp => ⟨gb, 0, rfl, fun j hj => ?_⟩⟩, ?_⟩
    · rw [h2]
      have := cell?_putRow encStr (Sort.ahead w q) gb 0 l.toArray (Lib.compact l ++ List.replicate (l.length - (Lib.compact l).length) []).toArray hH hsz j (by simp; omega)
      rw [this]
      simp [List.getElem?_append_left hj, hj]
    · have hg := grownBy_sorted (w := w) (g := gb) (n := q) (os := #[]) (Lib.compact l ++ List.replicate (l.length - (Lib.compact l).length) []).toArray
      rw [grow_empty] at hg
      rw [h2]
      exact (Below.refl B w).grown hg hB (fun k e => by cases e; exact hbase)

theorem ownb {w w1 : World} {base : Nat} {e : TypeId} {size n : Nat} {v : Value} {xs : List Value} (h : w.ownsRow base e size v n xs) (hb : Below w.heap.size w w1) : w1.ownsRow base e size v n xs :=
  h.kept ⟨hb.os, hb.tape, hb.output, hb.size, fun i hi _ => hb.block i hi⟩ (row := none) (by cases v.ownBlock <;> simp)

def CleanPost (l : List Bs) (w : World) (e : Ending) (w' : World) : Prop :=
  ∃ A c, e = .returned (.tuple #[.slice A (cleanL l).1.length c, .int .i64 (cleanL l).2]) ∧ StrsV w' A (cleanL l).1 ∧ Below w.heap.size w w'

theorem strsV_own {w : World} {B e : Nat} {v : Value} {l : List Bs} (h : w.ownsRow B e 1 v l.length (l.map encStr)) (hl : l.length ≤ 9223372036854775807) : ∃ A c, v = .slice A l.length c ∧ StrsV w A l := by
  rcases h.2 with ⟨rfl, h0⟩ | ⟨gb, cap, cur, rfl, _, hgb, r1, r2, r3, r4⟩
  · obtain rfl : l = [] := List.length_eq_zero_iff.1 h0
    exact ⟨none, 0, rfl, StrsV.nil _ _⟩
  · have hH : Holds encStr w gb 0 l.toArray := holds_of_block hgb (by simpa using r4)
    refine ⟨_, _, rfl, hl, fun _ => ⟨gb, 0, rfl, fun j hj => ?_⟩⟩
    have := (hH j (by simpa using hj)).1
    simpa [getElem!_pos, hj] using this

theorem filter_take_succ (p : Bs → Bool) (l : List Bs) (k : Nat) (hk : k < l.length) : (l.take (k + 1)).filter p = if p l[k] = true then (l.take k).filter p ++ [l[k]] else (l.take k).filter p := by
  rw [List.take_succ_eq_append_getElem hk, List.filter_append]
  split
  · rename_i h; simp [h]
  · rename_i h; simp [h]

set_option maxHeartbeats 4000000 in
set_option maxRecDepth 100000 in
theorem clean_any (A0 : Option Addr) (l : List Bs) (c0 : Nat) (hl : ∀ s ∈ l, s.length ≤ 9223372036854775807) (hlen : l.length * 16 ≤ 140737488355328) (w : World) (hE : Env w) (hS0 : StrsV w A0 l) :
    Calls Tryz.prog 16 #[.slice A0 l.length c0] w (CleanPost l w) := by
  have hm := hS0.1
  have hb0 := bal w (.cells #[.slice A0 l.length c0] 22)
  have hcell : (w.alloc (.cells #[.slice A0 l.length c0] 22)).cell? ⟨w.heap.size, 0, none⟩ = some (.slice A0 l.length c0) := cell_new1 _ _ _
  have hgives : Gives 116 #[.pointer (some ⟨w.heap.size, 0, none⟩)] l (w.alloc (.cells #[.slice A0 l.length c0] 22)) := fun n hn =>
    values_stops n hn w.heap.size _ A0 c0 l _ (by simp) (Nat.le_refl _) hcell (hS0.below hb0).low
  have hsorted := Lib.hid (sorted_any 116 _ (enters_of Tryz.func116 (by kernel_rfl) rfl) l hlen _ hgives)
  have hcompact := Lib.hid (fun v (W : World) (hrow : W.ownsRow (w.heap.size + 1) 9 1 v l.length ((sortL l).map encStr)) (hB : w.heap.size + 1 ≤ W.heap.size) => compact_any (sortL l) v (w.heap.size + 1) W (by rw [sortL_length]; exact hm) hB (by rw [sortL_length]; exact hrow))
  have hSl : ∀ s ∈ Lib.compact (sortL l), s.length ≤ 9223372036854775807 := fun s hs => hl s (((sortC_facts l).2 s).1 hs)
  have HSL := Lib.hid hSl
  have hSn : (Lib.compact (sortL l)).length ≤ l.length := by have := Lib.compact_length_le (sortL l); rw [sortL_length] at this; exact this
  have hclean : cleanL l = if (Lib.compact (sortL l)).all isPath then (if 8 < ((Lib.compact (sortL l)).filter (top (Lib.compact (sortL l)))).length then ([], 4) else ((Lib.compact (sortL l)).filter (top (Lib.compact (sortL l))), 0)) else ([], 20) := rfl
  have HCL := Lib.hid hclean
  clear hcell hgives hSl hclean
  go_enter Tryz.func16, Tryz.ntmps16
  go_wp2
  go_step3
  go_wp2_with fail
  refine (values_any _ _ _ _).mono ?_
  rintro e w1 ⟨rfl, rfl⟩
  go_wp2_with fail
  refine hsorted.out.mono ?_
  rintro e w2 ⟨v2, rfl, hrow, hnil, hb2⟩
  have HNI := Lib.hid hnil
  clear hnil
  have hsz2 : w.heap.size + 1 ≤ w2.heap.size := by have := hb2.size; simpa using this
  have hrow' : w2.ownsRow (w.heap.size + 1) 9 1 v2 l.length ((sortL l).map encStr) := by simpa using hrow
  go_wp2_with fail
  refine (hcompact.out v2 w2 hrow' hsz2).mono ?_
  rintro e w3 ⟨A3, c3, rfl, hS3, hb3⟩
  have hb03 : Below w.heap.size w w3 := bt hb0 ((by simpa using hb2 : Below (w.alloc (.cells #[.slice A0 l.length c0] 22)).heap.size _ w2).trans (by simpa using hb3))
  have hE3 := hE.below hb03
  clear hrow hrow' hb2 hb3 hcompact hsorted HNI
  generalize Lib.compact (sortL l) = S at *
  go_wp2
  go_step3
  go_wp2
  obtain ⟨i0, hi, hz0, hz1, hz2⟩ := info_parts info_str
  go_loopw [5, 18] (fun v i wr => ∃ k : Nat, i = .int .i64 k ∧ k ≤ S.length ∧ wr.ownsRow w3.heap.size 9 1 v ((S.take k).filter (top S)).length (((S.take k).filter (top S)).map encStr) ∧ Below w3.heap.size w3 wr ∧ Hid ((S.take k).all isPath = true)) (fun _ i _ => S.length - (intOf i).toNat)
  case atStart => exact ⟨0, rfl, by omega, World.ownsRow_nil _ _ _ _, Below.refl _ _, Lib.hid (by simp)⟩
  case round =>
    obtain ⟨k, rfl, hk, hrow, hb, hall⟩ := hrel
    by_cases hlt : k < S.length
    · obtain ⟨b, o, rfl, hc⟩ := (hS3.below hb).at_ k hlt
      have hEr := hE3.below hb
      have hks : (⟨S[k].toArray⟩ : ByteArray).size ≤ 9223372036854775807 := by show S[k].toArray.size ≤ _; simpa using HSL.out S[k] (List.getElem_mem _)
      have hap : (S.take (k + 1)).all isPath = ((S.take k).all isPath && isPath S[k]) := by
        rw [List.take_succ_eq_append_getElem hlt, List.all_append]; simp
      have HAP := Lib.hid hap
      have HFI := Lib.hid (filter_take_succ (top S) S k hlt)
      clear hap
      cases hp : pathOf S[k] with
      | none =>
        have h13 := Lib.hid (split_none ⟨S[k].toArray⟩ hks hp wr hEr)
        have hbad : Hid (cleanL l = ([], 20)) := Lib.hid (by
          rw [HCL.out, if_neg]
          intro h
          have := List.all_eq_true.1 h S[k] (List.getElem_mem _)
          simp [isPath, hp] at this)
        clear hp
        go_wp2_with fail
        refine h13.out.mono ?_
        rintro e w4 ⟨A4, c4, rfl, hb4⟩
        go_wp2
        rw [Exit.noGoto_ret]
        go_wp2
        go_ret2
        exact ⟨_, _, by rw [hbad.out]; rfl, by rw [hbad.out]; exact StrsV.nil _ none, hb03.trans (by simpa using (hb.trans (hb4.mono hb.size)).mono hb03.size)⟩
      | some pk =>
        have h13 := Lib.hid (split_some ⟨S[k].toArray⟩ hks pk hp wr hEr)
        have HPK : Hid (isPath S[k] = true) := Lib.hid (by simp [isPath, hp])
        clear hp
        go_wp2_with fail
        refine h13.out.mono ?_
        rintro e w4 ⟨A4, c4, rfl, hS4, hb4⟩
        have hrow4 := ownb hrow hb4
        have hb34 := hb.trans (hb4.mono hb.size)
        clear hrow hb hc hS4 hEr
        have hS4' := hS3.below hb34
        have hE4 := hE3.below hb34
        have hrest : ∀ W : World, Below w4.heap.size w4 W → top S S[k] = false → ∃ k' : Nat, (Value.int .i64 ((k : Int) + 1)) = .int .i64 k' ∧ k' ≤ S.length ∧ W.ownsRow w3.heap.size 9 1 u5 ((S.take k').filter (top S)).length (((S.take k').filter (top S)).map encStr) ∧ Below w3.heap.size w3 W ∧ Hid ((S.take k').all isPath = true) := fun W hW ht => by
          refine ⟨k + 1, by go_num, by omega, ?_, hb34.trans (hW.mono hb34.size), Lib.hid (by rw [HAP.out, hall.out, HPK.out]; rfl)⟩
          rw [HFI.out, if_neg (by rw [ht]; simp)]
          exact ownb hrow4 hW
        have HREST := Lib.hid hrest
        clear hrest
        obtain ⟨wo, hwo⟩ : ∃ wo : World, wo = wr := ⟨_, rfl⟩
        clear hwo
        go_wp2
        go_loopw [32] (fun i wi => ∃ j : Nat, i = .int .i64 j ∧ j ≤ S.length ∧ Below w4.heap.size w4 wi ∧ Hid ((S.take j).all (fun t => t == S[k] || !within S[k] t) = true)) (fun i _ => S.length - (intOf i).toNat)
        case atStart => exact ⟨0, rfl, by omega, Below.refl _ _, Lib.hid (by simp)⟩
        case round =>
          obtain ⟨j, rfl, hj, hbi, halli⟩ := hrel
          by_cases hltj : j < S.length
          · have hSi := hS4'.below hbi
            obtain ⟨b', o', e', hcj⟩ := hSi.at_ j hltj
            cases e'
            have hEi := hE4.below hbi
            have hjs : (⟨S[j].toArray⟩ : ByteArray).size ≤ 9223372036854775807 := by show S[j].toArray.size ≤ _; simpa using HSL.out S[j] (List.getElem_mem _)
            have HAS : Hid ((S.take (j + 1)).all (fun t => t == S[k] || !within S[k] t) = ((S.take j).all (fun t => t == S[k] || !within S[k] t) && (S[j] == S[k] || !within S[k] S[j]))) := Lib.hid (by
              rw [List.take_succ_eq_append_getElem hltj, List.all_append]; simp)
            by_cases hsame : S[j] = S[k]
            · have HSA := Lib.hid hsame
              rw [hsame] at hcj
              clear hsame
              go_wp2
              go_roundw
              case rel => exact ⟨j + 1, by go_num, by omega, hbi, Lib.hid (by rw [HAS.out, halli.out, HSA.out]; simp)⟩
              case measure => simp [intOf]; omega
            · have hne : (S[j] == S[k]) = false := by rw [beq_eq_false_iff_ne]; exact hsame
              have HNE := Lib.hid hsame
              clear hsame
              have h14 := within_any ⟨S[k].toArray⟩ ⟨S[j].toArray⟩ hks hjs wr hEi
              rw [List.toList_toArray, List.toList_toArray] at h14
              cases hw : within S[k] S[j] with
              | true =>
                rw [hw] at h14
                have H14 := Lib.hid h14
                have htop : Hid (top S S[k] = false) := Lib.hid (by
                  cases h : top S S[k] with
                  | false => rfl
                  | true =>
                    have := List.all_eq_true.1 h S[j] (List.getElem_mem _)
                    rw [hw] at this
                    simp at this
                    exact absurd this HNE.out)
                clear h14 hw
                go_wp2_with fail
                refine H14.out.mono ?_
                rintro e w5 ⟨rfl, hb5⟩
                have hR := HREST.out w5 (bt hbi hb5) htop.out
                go_wp2
                go_roundw
                case rel => exact hR
                case measure => simp [intOf]; omega
              | false =>
                rw [hw] at h14
                have H14 := Lib.hid h14
                have HW := Lib.hid hw
                clear h14 hw
                go_wp2_with fail
                refine H14.out.mono ?_
                rintro e w5 ⟨rfl, hb5⟩
                go_wp2
                go_roundw
                case rel => exact ⟨j + 1, by go_num, by omega, bt hbi hb5, Lib.hid (by rw [HAS.out, halli.out, HW.out]; simp)⟩
                case measure => simp [intOf]; omega
          · have htop : Hid (top S S[k] = true) := Lib.hid (by have := halli.out; rw [List.take_of_length_le (by omega)] at this; exact this)
            have hrow5 := ownb hrow4 hbi
            have hb35 := hb34.trans (hbi.mono hb34.size)
            have hfl : ((S.take k).filter (top S)).length ≤ k := Nat.le_trans (List.length_filter_le _ _) (List.length_take_le _ _)
            have hwsz := hb35.size
            go_wp2_with (at_builtin; refine wpList_append_own _ rfl _ _ 22 rfl w3.heap.size 9 i0 (.string ByteArray.empty) 1 16 Tryz.underlying22 hi hz0 hz1 hz2 rfl (by decide) _ _ _ rfl (hrow5.alloc _) ⟨wr.heap.size, 0, none⟩ 1 1 [encStr S[k]] rfl rfl (cell_one_new _ _ _) (by simp [Value.oneCell']) (by unfold maxLen; omega) (by omega) (by simp; omega) ?_; intro v' w6 hown' hgrow _)
            go_roundw
            case rel =>
              refine ⟨k + 1, by go_num, by omega, ?_, ((hb35.alloc hwsz _).grown hgrow (by simp; omega) (fun q e => (hrow5.lt q e).1)), Lib.hid (by rw [HAP.out, hall.out, HPK.out]; rfl)⟩
              rw [HFI.out, if_pos htop.out, List.map_append, List.length_append]
              simpa using hown'
            case measure => simp [intOf]; omega
    · have hall' : Hid (S.all isPath = true) := Lib.hid (by have := hall.out; rwa [List.take_of_length_le (by omega)] at this)
      have hcl : cleanL l = if 8 < (S.filter (top S)).length then ([], 4) else (S.filter (top S), 0) := by rw [HCL.out, if_pos hall'.out]
      have HC2 := Lib.hid hcl
      clear hcl
      rw [List.take_of_length_le (show S.length ≤ k by omega)] at hrow
      have hfl : (S.filter (top S)).length ≤ S.length := List.length_filter_le _ _
      obtain ⟨A6, c6, rfl, hS6⟩ := strsV_own hrow (by omega)
      by_cases h8 : 8 < (S.filter (top S)).length
      · go_wp2
        rw [Exit.noGoto_ret]
        go_wp2
        go_ret2
        exact ⟨_, _, by rw [HC2.out, if_pos h8]; rfl, by rw [HC2.out, if_pos h8]; exact StrsV.nil _ none, hb03.trans (hb.mono hb03.size)⟩
      · go_wp2
        rw [Exit.noGoto_ret]
        go_wp2
        go_ret2
        exact ⟨_, _, by rw [HC2.out, if_neg h8]; rfl, by rw [HC2.out, if_neg h8]; exact hS6, hb03.trans (hb.mono hb03.size)⟩
end Go.Proofs.YtfofjblkondnbaaGreatDoor.Ch

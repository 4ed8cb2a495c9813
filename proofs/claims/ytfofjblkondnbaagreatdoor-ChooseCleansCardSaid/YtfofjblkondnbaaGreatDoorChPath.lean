/- The walks of path.Part, path.Split and path.Within. -/
import Derived.Test.YtfofjblkondnbaaGreatDoorChName
import Derived.Test.YtfofjblkondnbaaGreatDoorChNum
import Derived.Test.YtfofjblkondnbaaGreatDoorChStr
namespace Go.Proofs.YtfofjblkondnbaaGreatDoor.Ch
open Go.RowKit Go.Sort

theorem cut_any (s : ByteArray) (c : UInt8) (w : World) (hs : s.size < 4294967281) (hE : Env w) :
    Calls Tryz.prog 190 #[.string s, .string ⟨#[c]⟩] w fun e w' => e = .returned (.tuple #[.string ⟨(cutC c s.data.toList).1.toArray⟩, .string ⟨((cutC c s.data.toList).2.getD []).toArray⟩, .bool (cutC c s.data.toList).2.isSome]) ∧ Below w.heap.size w w' := by
  obtain ⟨m, hm⟩ := hE.len
  refine (Tryz.strings_Cut s ⟨#[c]⟩ m w hs hm).mono fun e w' ⟨h1, n, h2⟩ => ?_
  rw [show (⟨#[c]⟩ : ByteArray).data.toList = [c] from rfl, cut_eq] at h1
  exact ⟨h1, h2 ▸ below_drewN (Below.refl _ _) n⟩

theorem cut_len (c : UInt8) (s : Bs) : (cutC c s).1.length ≤ s.length ∧ ((cutC c s).2.getD []).length ≤ s.length := by
  cases h : (cutC c s).2 with
  | none => rw [cutC_none c s h]; simp
  | some t =>
    have := congrArg List.length (cutC_some c s t h)
    simp only [List.length_append, List.length_cons] at this
    simp only [Option.getD_some]
    omega

set_option maxHeartbeats 1000000 in
set_option maxRecDepth 100000 in
theorem part_any (s : ByteArray) (hs : s.size < 4294967281) (w : World) (hE : Env w) :
    Calls Tryz.prog 119 #[.string s] w fun e w' => e = .returned (.bool (partOk s.data.toList)) ∧ Below w.heap.size w w' := by
  by_cases h0 : s.data.toList = lostName
  · have hp : Hid (partOk s.data.toList = true) := Lib.hid (by simp [partOk, h0])
    have h0' : s.toList = [108, 111, 115, 116, 43, 102, 111, 117, 110, 100] := by rw [ByteArray.toList_eq]; exact h0
    clear h0
    go_enter Tryz.func119, Tryz.ntmps119
    go_wp2
    go_ret
    exact ⟨ret_bool hp.out.symm, Below.refl _ _⟩
  · have h0' : (s.toList == [108, 111, 115, 116, 43, 102, 111, 117, 110, 100]) = false := by
      rw [ByteArray.toList_eq, beq_eq_false_iff_ne]; exact h0
    have hpart : partOk s.data.toList = (nameOk (cutC 126 s.data.toList).1 && match (cutC 126 s.data.toList).2 with | none => true | some tag => tagOk tag) := by
      have : (s.data.toList == lostName) = false := by rw [beq_eq_false_iff_ne]; exact h0
      unfold partOk
      rw [this, Bool.false_or]
      cases h : cutC 126 s.data.toList with
      | mk a o => cases o <;> simp
    have hl := cut_len 126 s.data.toList
    have hsz : s.data.toList.length = s.size := by simp
    have hcut := cut_any s 126 w hs hE
    rw [hpart]
    clear hpart h0
    cases hc : cutC 126 s.data.toList with
    | mk nm o =>
    rw [hc] at hl hcut
    dsimp only at hl hcut ⊢
    clear hc
    have hHid := Lib.hid hcut
    clear hcut
    have hsz1 : (⟨nm.toArray⟩ : ByteArray).size ≤ 9223372036854775807 := by show nm.toArray.size ≤ _; simp; omega
    have hName := fun W => name_any ⟨nm.toArray⟩ hsz1 W
    simp only [List.toList_toArray] at hName
    cases hn : nameOk nm with
    | false =>
      rw [hn] at hName
      rw [Bool.false_and]
      go_enter Tryz.func119, Tryz.ntmps119
      go_wp2_with fail
      refine hHid.out.mono ?_
      rintro e w1 ⟨rfl, hb1⟩
      go_wp2_with fail
      refine (hName _).mono ?_
      rintro e w2 ⟨rfl, hb2⟩
      go_wp2
      go_ret
      exact ⟨rfl, below_then hb1 hb1.size hb2⟩
    | true =>
      rw [hn] at hName
      rw [Bool.true_and]
      have hl2 := hl.2
      cases o with
      | none =>
        have hcut2 := fun W (hE : Env W) => cut_any ⟨(([] : Bs)).toArray⟩ 46 W (by decide) hE
        simp only [Option.getD_none, Option.isSome_none] at hHid
        go_enter Tryz.func119, Tryz.ntmps119
        go_wp2_with fail
        refine hHid.out.mono ?_
        rintro e w1 ⟨rfl, hb1⟩
        go_wp2_with fail
        refine (hName _).mono ?_
        rintro e w2 ⟨rfl, hb2⟩
        go_wp2_with fail
        refine (hcut2 _ (hE.below (below_then hb1 hb1.size hb2))).mono ?_
        rintro e w3 ⟨rfl, hb3⟩
        go_wp2_with fail
        go_ret
        exact ⟨rfl, below_then (below_then hb1 hb1.size hb2) (Nat.le_trans hb1.size hb2.size) hb3⟩
      | some tag =>
        simp only [Option.getD_some] at hl2
        have hsz2 : (⟨tag.toArray⟩ : ByteArray).size < 4294967281 := by show tag.toArray.size < _; simp; omega
        have hcut2 := fun W (hE : Env W) => cut_any ⟨tag.toArray⟩ 46 W hsz2 hE
        simp only [List.toList_toArray] at hcut2
        simp only [Option.getD_some, Option.isSome_some] at hHid
        have htag : tagOk tag = match (cutC 46 tag).2 with
            | none => false
            | some seq => numOk (cutC 46 tag).1 && numOk seq := by
          unfold tagOk
          cases cutC 46 tag with
          | mk a o => cases o <;> rfl
        have hl3 := cut_len 46 tag
        dsimp only
        rw [htag]
        clear htag
        cases hc2 : cutC 46 tag with
        | mk rep o2 =>
        rw [hc2] at hcut2 hl3
        dsimp only at hcut2 hl3 ⊢
        clear hc2
        have hszr : (⟨rep.toArray⟩ : ByteArray).size ≤ 281474976710656 := by show rep.toArray.size ≤ _; simp; omega
        have hRep := fun W (hE : Env W) => digits_any ⟨rep.toArray⟩ hszr W hE
        simp only [List.toList_toArray, digitsB_eq] at hRep
        cases o2 with
        | none =>
          simp only [Option.getD_none, Option.isSome_none] at hcut2
          dsimp only
          go_enter Tryz.func119, Tryz.ntmps119
          go_wp2_with fail
          refine hHid.out.mono ?_
          rintro e w1 ⟨rfl, hb1⟩
          go_wp2_with fail
          refine (hName _).mono ?_
          rintro e w2 ⟨rfl, hb2⟩
          go_wp2_with fail
          refine (hcut2 _ (hE.below (below_then hb1 hb1.size hb2))).mono ?_
          rintro e w3 ⟨rfl, hb3⟩
          go_wp2_with fail
          go_ret
          exact ⟨rfl, below_then (below_then hb1 hb1.size hb2) (Nat.le_trans hb1.size hb2.size) hb3⟩
        | some seq =>
          have hl4 := hl3.2
          simp only [Option.getD_some] at hl4
          simp only [Option.getD_some, Option.isSome_some] at hcut2
          have hszs : (⟨seq.toArray⟩ : ByteArray).size ≤ 281474976710656 := by show seq.toArray.size ≤ _; simp; omega
          have hSeq := fun W (hE : Env W) => digits_any ⟨seq.toArray⟩ hszs W hE
          simp only [List.toList_toArray, digitsB_eq] at hSeq
          dsimp only
          cases hr : numOk rep with
          | false =>
            rw [Bool.false_and]
            rw [hr] at hRep
            go_enter Tryz.func119, Tryz.ntmps119
            go_wp2_with fail
            refine hHid.out.mono ?_
            rintro e w1 ⟨rfl, hb1⟩
            go_wp2_with fail
            refine (hName _).mono ?_
            rintro e w2 ⟨rfl, hb2⟩
            go_wp2_with fail
            refine (hcut2 _ (hE.below (below_then hb1 hb1.size hb2))).mono ?_
            rintro e w3 ⟨rfl, hb3⟩
            go_wp2_with fail
            refine (hRep _ (hE.below (below_then (below_then hb1 hb1.size hb2) (Nat.le_trans hb1.size hb2.size) hb3))).mono ?_
            rintro e w4 ⟨rfl, hb4⟩
            go_wp2
            go_ret
            exact ⟨rfl, below_then (below_then (below_then hb1 hb1.size hb2) (Nat.le_trans hb1.size hb2.size) hb3) (Nat.le_trans hb1.size (Nat.le_trans hb2.size hb3.size)) hb4⟩
          | true =>
            rw [Bool.true_and]
            rw [hr] at hRep
            go_enter Tryz.func119, Tryz.ntmps119
            go_wp2_with fail
            refine hHid.out.mono ?_
            rintro e w1 ⟨rfl, hb1⟩
            go_wp2_with fail
            refine (hName _).mono ?_
            rintro e w2 ⟨rfl, hb2⟩
            go_wp2_with fail
            refine (hcut2 _ (hE.below (below_then hb1 hb1.size hb2))).mono ?_
            rintro e w3 ⟨rfl, hb3⟩
            go_wp2_with fail
            refine (hRep _ (hE.below (below_then (below_then hb1 hb1.size hb2) (Nat.le_trans hb1.size hb2.size) hb3))).mono ?_
            rintro e w4 ⟨rfl, hb4⟩
            go_wp2_with fail
            refine (hSeq _ (hE.below (below_then (below_then (below_then hb1 hb1.size hb2) (Nat.le_trans hb1.size hb2.size) hb3) (Nat.le_trans hb1.size (Nat.le_trans hb2.size hb3.size)) hb4))).mono ?_
            rintro e w5 ⟨rfl, hb5⟩
            go_wp2
            go_ret
            exact ⟨rfl, below_then (below_then (below_then (below_then hb1 hb1.size hb2) (Nat.le_trans hb1.size hb2.size) hb3) (Nat.le_trans hb1.size (Nat.le_trans hb2.size hb3.size)) hb4) (Nat.le_trans hb1.size (Nat.le_trans hb2.size (Nat.le_trans hb3.size hb4.size))) hb5⟩

/-- What path.Split answers. -/
def SplitPost (s : Bs) (w : World) (e : Ending) (w' : World) : Prop :=
  ∃ (A : Option Addr) (c : Nat), e = .returned (.tuple #[.slice A ((pathOf s).getD []).length c, .int .i64 (if (pathOf s).isSome then 0 else 20)]) ∧ StrsV w' A ((pathOf s).getD []) ∧ Below w.heap.size w w'

theorem splitPost_none {s : Bs} (h : pathOf s = none) {w w' : World} (hb : Below w.heap.size w w') : SplitPost s w (.returned (.tuple #[.slice none 0 0, .int .i64 20])) w' :=
  ⟨none, 0, by rw [h]; rfl, by rw [h]; exact StrsV.nil _ _, hb⟩

theorem pathOf_long {s : Bs} (h : 120 < s.length) : pathOf s = none := by unfold pathOf; rw [if_pos h]
theorem pathOf_start {s : Bs} (h : Lib.hasPrefix s [47] = false) : pathOf s = none := by
  unfold pathOf
  split
  · rfl
  · cases s with
    | nil => rfl
    | cons x r =>
      have hx : ¬ x = 47 := fun e => by subst e; simp [Lib.hasPrefix] at h
      simp [hx]
theorem start_cons {s : Bs} (h : Lib.hasPrefix s [47] = true) : ∃ r, s = 47 :: r := by
  cases s with
  | nil => simp [Lib.hasPrefix] at h
  | cons x r =>
    simp [Lib.hasPrefix] at h
    exact ⟨r, by rw [h]⟩

set_option maxHeartbeats 1000000 in
set_option maxRecDepth 100000 in
theorem split_long (s : ByteArray) (hs : s.size ≤ 9223372036854775807) (h : 120 < s.size) (w : World) :
    Calls Tryz.prog 60 #[.string s] w (SplitPost s.data.toList w) := by
  have hp := Lib.hid (pathOf_long (s := s.data.toList) (by simpa using h))
  go_enter Tryz.func60, Tryz.ntmps60
  go_wp2
  go_ret2
  exact splitPost_none hp.out (Below.refl _ _)

set_option maxHeartbeats 1000000 in
set_option maxRecDepth 100000 in
theorem split_start (s : ByteArray) (h : ¬ 120 < s.size) (h1 : Lib.hasPrefix s.data.toList [47] = false) (w : World) :
    Calls Tryz.prog 60 #[.string s] w (SplitPost s.data.toList w) := by
  have hp := Lib.hid (pathOf_start h1)
  go_enter Tryz.func60, Tryz.ntmps60
  go_wp2_with fail
  refine (Tryz.strings_HasPrefix _ _ _).mono ?_
  rintro e w' ⟨rfl, rfl⟩
  go_wp2
  go_ret2
  exact splitPost_none hp.out (Below.refl _ _)

set_option maxHeartbeats 1000000 in
set_option maxRecDepth 100000 in
theorem split_root (s : ByteArray) (h1 : s.data.toList = [47]) (w : World) :
    Calls Tryz.prog 60 #[.string s] w (SplitPost s.data.toList w) := by
  have hp : Hid (SplitPost s.data.toList w (.returned (.tuple #[.slice none 0 0, .int .i64 0])) w) := Lib.hid ⟨none, 0, by rw [h1]; rfl, by rw [h1]; exact StrsV.nil _ _, Below.refl _ _⟩
  have hsz : ¬ 120 < s.size := by have := congrArg List.length h1; simp at this; omega
  have hpre : Lib.hasPrefix s.data.toList [47] = true := by rw [h1]; rfl
  have hl : s.toList = [47] := by rw [ByteArray.toList_eq]; exact h1
  clear h1
  go_enter Tryz.func60, Tryz.ntmps60
  go_wp2_with fail
  refine (Tryz.strings_HasPrefix _ _ _).mono ?_
  rintro e w' ⟨rfl, rfl⟩
  go_wp2
  go_ret2
  exact hp.out

theorem splitC_len (c : UInt8) : ∀ s : Bs, ∀ p ∈ splitC c s, p.length ≤ s.length
  | [], p, h => by simp [splitC] at h; simp [h]
  | x :: xs, p, h => by
    have ih := splitC_len c xs
    unfold splitC at h
    split at h
    · rcases List.mem_cons.1 h with rfl | h
      · simp
      · have := ih p h; simp; omega
    · split at h
      · rename_i e; exact absurd e (splitC_ne c xs)
      · rename_i q qs e
        rw [e] at ih
        rcases List.mem_cons.1 h with rfl | h
        · have := ih q (by simp); simp; omega
        · have := ih p (by simp [h]); simp; omega

set_option maxHeartbeats 1000000 in
set_option maxRecDepth 100000 in
theorem split_parts (s : ByteArray) (h : ¬ 120 < s.size) (r : Bs) (h1 : s.data.toList = 47 :: r) (hr : r ≠ []) (w : World) (hE : Env w) :
    Calls Tryz.prog 60 #[.string s] w (SplitPost s.data.toList w) := by
  have hpre : Lib.hasPrefix s.data.toList [47] = true := by rw [h1]; simp [Lib.hasPrefix]
  have hl : (s.toList == [47]) = false := by rw [ByteArray.toList_eq, beq_eq_false_iff_ne, h1]; simpa using hr
  have hext : (s.extract 1 s.size).data.toList = r := by rw [Lib.extract_to_end, h1]; rfl
  obtain ⟨m, hm⟩ := hE.len
  have hcall := Tryz.strings_Split (s.extract 1 s.size) ⟨#[47]⟩ m w (by simp; omega) hm (by decide)
  rw [splitB_count, splitB_values, hext] at hcall
  have hH := Lib.hid hcall
  have hP : pathOf s.data.toList = if (splitC 47 r).length ≤ 10 ∧ (splitC 47 r).all partOk = true then some (splitC 47 r) else none := by
    unfold pathOf
    rw [if_neg (by simpa using h), h1]
    simp [hr]
  have HP := Lib.hid hP
  have H1 := Lib.hid h1
  clear hP hcall hext h1
  have hsz1 : 1 ≤ s.size := by have := congrArg List.length H1.out; simp at this; omega
  have hpl : ∀ p ∈ splitC 47 r, p.length ≤ 120 := fun p hp => by
    have h2 := splitC_len 47 r p hp
    have := congrArg List.length H1.out
    simp at this; omega
  have HL := Lib.hid hpl
  clear hpl
  generalize splitC 47 r = l at *
  by_cases hlen : 10 < l.length
  · have hp : Hid (pathOf s.data.toList = none) := Lib.hid (by rw [HP.out, if_neg (by omega)])
    go_enter Tryz.func60, Tryz.ntmps60
    go_wp2_with fail
    refine (Tryz.strings_HasPrefix _ _ _).mono ?_
    rintro e w' ⟨rfl, rfl⟩
    go_wp2_with fail
    refine hH.out.mono ?_
    rintro e w' ⟨rfl, rfl⟩
    go_wp2
    go_ret2
    exact splitPost_none hp.out (bal _ _)
  · go_enter Tryz.func60, Tryz.ntmps60
    go_wp2_with fail
    refine (Tryz.strings_HasPrefix _ _ _).mono ?_
    rintro e w' ⟨rfl, rfl⟩
    go_wp2_with fail
    refine hH.out.mono ?_
    rintro e w' ⟨rfl, rfl⟩
    go_wp2
    have hS : StrsV (w'.alloc (Obj.cells (List.map encStr l).toArray 9)) (some ⟨w'.heap.size, 0, none⟩) l := StrsV.made (by omega) (halloc _ _)
    have hb0 := bal w' (Obj.cells (List.map encStr l).toArray 9)
    have hE0 := hE.below hb0
    have hlen' : l.length ≤ 10 := by omega
    generalize w'.alloc (Obj.cells (List.map encStr l).toArray 9) = W0 at *
    go_loopw [25] (fun i wr => ∃ k : Nat, i = .int .i64 k ∧ k ≤ l.length ∧ Below W0.heap.size W0 wr ∧ Hid ((l.take k).all partOk = true)) (fun i _ => l.length - (intOf i).toNat)
    case atStart => exact ⟨0, rfl, by omega, Below.refl _ _, Lib.hid (by simp)⟩
    case round =>
      obtain ⟨k, rfl, hk, hb, hall⟩ := hrel
      by_cases hlt : k < l.length
      · obtain ⟨b, o, e, hc⟩ := (hS.below hb).at_ k hlt
        cases e
        rw [Nat.zero_add] at hc
        have hpk := HL.out l[k] (List.getElem_mem _)
        have hPart := part_any ⟨l[k].toArray⟩ (by show l[k].toArray.size < _; simp; omega)
        have hts : (l.take (k + 1)).all partOk = ((l.take k).all partOk && partOk l[k]) := by
          rw [List.take_succ_eq_append_getElem hlt, List.all_append]; simp
        have HTS := Lib.hid hts
        clear hts
        rw [List.toList_toArray] at hPart
        have HPART := Lib.hid hPart
        clear hPart
        have hbad : partOk l[k] = false → l.all partOk = false := fun h => by
          rw [← List.take_append_drop (k + 1) l, List.all_append, HTS.out, h]; simp
        have HBAD := Lib.hid hbad
        clear hbad
        cases hpo : partOk l[k] with
        | true =>
          have HPO := Lib.hid hpo
          rw [hpo] at HPART
          clear hpo
          go_wp2_with fail
          refine (HPART.out _ (hE0.below hb)).mono ?_
          rintro e w2 ⟨rfl, hb2⟩
          go_wp2
          go_roundw
          case rel => exact ⟨k + 1, by go_num, by omega, bt hb hb2, Lib.hid (by rw [HTS.out, hall.out, HPO.out]; rfl)⟩
          case measure => simp [intOf]; omega
        | false =>
          have HPO := Lib.hid hpo
          rw [hpo] at HPART
          clear hpo
          go_wp2_with fail
          refine (HPART.out _ (hE0.below hb)).mono ?_
          rintro e w2 ⟨rfl, hb2⟩
          go_wp2
          go_ret2
          exact splitPost_none (by rw [HP.out, if_neg (by rw [HBAD.out HPO.out]; simp)]) (bt hb0 (bt hb hb2))
      · have hall' : Hid (l.all partOk = true) := Lib.hid (by have := hall.out; rwa [List.take_of_length_le (by omega)] at this)
        go_wp2
        go_ret2
        have hp : pathOf s.data.toList = some l := by rw [HP.out, if_pos ⟨hlen', hall'.out⟩]
        exact ⟨_, _, by rw [hp]; rfl, by rw [hp]; exact hS.below hb, bt hb0 hb⟩

theorem split_any (s : ByteArray) (hs : s.size ≤ 9223372036854775807) (w : World) (hE : Env w) :
    Calls Tryz.prog 60 #[.string s] w (SplitPost s.data.toList w) := by
  by_cases h : 120 < s.size
  · exact split_long s hs h w
  · cases h1 : Lib.hasPrefix s.data.toList [47] with
    | false => exact split_start s h h1 w
    | true =>
      obtain ⟨r, hr⟩ := start_cons h1
      by_cases hn : r = []
      · exact split_root s (by rw [hr, hn]) w
      · exact split_parts s h r hr hn w hE
end Go.Proofs.YtfofjblkondnbaaGreatDoor.Ch

/- The walks of the document's answer for a path: Join, Begins, Within, Path, under. -/
import Derived.Test.YtfofjblkondnbaaGreatDoorChRef4
import Derived.Test.YtfofjblkondnbaaGreatDoorChWithin
namespace Go.Proofs.YtfofjblkondnbaaGreatDoor.Ch
open Go.RowKit Go.Sort

theorem refSplit_some (s : ByteArray) (hs : s.size ≤ 4611686018427387900) (l : List Bs) (h : pathOf s.data.toList = some l) (w : World) :
    Calls Tryz.prog 20 #[.string s] w (SplitSome l w) :=
  (refSplit_any s hs w).mono fun e w' ⟨A, c, h1, h2, h3, _⟩ => by
    rw [h] at h1 h2
    exact ⟨A, c, h1, h2, h3⟩
theorem refSplit_none (s : ByteArray) (hs : s.size ≤ 4611686018427387900) (h : pathOf s.data.toList = none) (w : World) :
    Calls Tryz.prog 20 #[.string s] w (SplitNone w) :=
  (refSplit_any s hs w).mono fun e w' ⟨A, c, h1, h2, h3, _⟩ => by
    rw [h] at h1 h2
    exact ⟨A, c, h1, h3⟩

def SplitSomeC (l : List Bs) (w : World) (e : Ending) (w' : World) : Prop :=
  ∃ (A : Option Addr) (c : Nat), e = .returned (.tuple #[.slice A l.length c, .int .i64 0]) ∧ StrsV w' A l ∧ Below w.heap.size w w' ∧ l.length ≤ c ∧ c ≤ 9223372036854775807
theorem refSplit_someC (s : ByteArray) (hs : s.size ≤ 4611686018427387900) (l : List Bs) (h : pathOf s.data.toList = some l) (w : World) :
    Calls Tryz.prog 20 #[.string s] w (SplitSomeC l w) :=
  (refSplit_any s hs w).mono fun e w' ⟨A, c, h1, h2, h3, h4⟩ => by
    rw [h] at h1 h2 h4
    exact ⟨A, c, h1, h2, h3, h4⟩

theorem refPath_any (s : ByteArray) (hs : s.size ≤ 4611686018427387900) (w : World) :
    Calls Tryz.prog 19 #[.string s] w fun e w' => e = .returned (.bool (isPath s.data.toList)) ∧ Below w.heap.size w w' := by
  cases h : pathOf s.data.toList with
  | none =>
    have hp : Hid (isPath s.data.toList = false) := Lib.hid (by unfold isPath; rw [h]; rfl)
    have h1 := Lib.hid (refSplit_none s hs h w)
    clear h
    go_enter Tryz.func19, Tryz.ntmps19
    go_wp2_with fail
    refine h1.out.mono ?_
    rintro e w1 ⟨A1, c1, rfl, hb1⟩
    go_wp2
    go_ret
    exact ⟨ret_bool hp.out.symm, hb1⟩
  | some a =>
    have hp : Hid (isPath s.data.toList = true) := Lib.hid (by unfold isPath; rw [h]; rfl)
    have h1 := Lib.hid (refSplit_some s hs a h w)
    clear h
    go_enter Tryz.func19, Tryz.ntmps19
    go_wp2_with fail
    refine h1.out.mono ?_
    rintro e w1 ⟨A1, c1, rfl, _, hb1⟩
    go_wp2
    go_ret
    exact ⟨ret_bool hp.out.symm, hb1⟩

set_option maxHeartbeats 1000000 in
set_option maxRecDepth 100000 in
theorem begins_any (A1 A2 : Option Addr) (a b : List Bs) (c1 c2 : Nat) (w : World) (h1 : StrsV w A1 a) (h2 : StrsV w A2 b) :
    Calls Tryz.prog 192 #[.slice A1 a.length c1, .slice A2 b.length c2] w fun e w' => e = .returned (.bool (b.isPrefixOf a)) ∧ Below w.heap.size w w' := by
  have hm1 := h1.1
  have hm2 := h2.1
  by_cases hlen : a.length < b.length
  · have hp : Hid (b.isPrefixOf a = false) := Lib.hid (prefix_len hlen)
    go_enter Tryz.func192, Tryz.ntmps192
    go_wp2
    go_ret
    exact ⟨ret_bool hp.out.symm, Below.refl _ _⟩
  · go_enter Tryz.func192, Tryz.ntmps192
    go_wp2
    go_loopw [5] (fun i wr => ∃ k : Nat, i = .int .i64 k ∧ k ≤ b.length ∧ Below w.heap.size w wr ∧ Hid ((b.take k).isPrefixOf a = true)) (fun i _ => b.length - (intOf i).toNat)
    case atStart => exact ⟨0, rfl, by omega, Below.refl _ _, Lib.hid (by simp)⟩
    case round =>
      obtain ⟨k, rfl, hk, hb, hall⟩ := hrel
      by_cases hlt : k < b.length
      · have hka : k < a.length := by omega
        obtain ⟨b1, o1, rfl, hc1⟩ := (h1.below hb).at_ k hka
        obtain ⟨b2, o2, rfl, hc2⟩ := (h2.below hb).at_ k hlt
        by_cases he : a[k] = b[k]
        · have hnext := Lib.hid (prefix_step hka hlt hall.out he)
          rw [he] at hc1
          clear he
          go_wp2
          go_quiet (fail)
          go_wp2
          go_roundw
          case rel => exact ⟨k + 1, by go_num, by omega, below_drewN hb _, hnext⟩
          case measure => simp [intOf]; omega
        · have hno := Lib.hid (prefix_not hka hlt he)
          have hb3 : (a[k] != b[k]) = true := by rw [bne_iff_ne]; exact he
          have hb4 : (a[k] == b[k]) = false := by rw [beq_eq_false_iff_ne]; exact he
          clear he
          go_wp2
          go_quiet (fail)
          go_wp2
          go_ret
          exact ⟨ret_bool hno.out.symm, below_drewN hb _⟩
      · have hall' : Hid (b.isPrefixOf a = true) := Lib.hid (by have := hall.out; rwa [List.take_of_length_le (by omega)] at this)
        go_wp2
        go_ret
        exact ⟨ret_bool hall'.out.symm, hb⟩
set_option maxHeartbeats 1000000 in
set_option maxRecDepth 100000 in
theorem refWithin_any (s t : ByteArray) (hs : s.size ≤ 4611686018427387900) (ht : t.size ≤ 4611686018427387900) (w : World) :
    Calls Tryz.prog 123 #[.string s, .string t] w fun e w' => e = .returned (.bool (within s.data.toList t.data.toList)) ∧ Below w.heap.size w w' := by
  cases ha : pathOf s.data.toList with
  | none =>
    rw [within_none1 ha]
    have h1 := Lib.hid (refSplit_none s hs ha w)
    clear ha
    cases hb : pathOf t.data.toList with
    | none =>
      have h2 := fun W => refSplit_none t ht hb W
      clear hb
      go_enter Tryz.func123, Tryz.ntmps123
      go_wp2_with fail
      refine h1.out.mono ?_
      rintro e w1 ⟨A1, c1, rfl, hb1⟩
      go_wp2_with fail
      refine (h2 _).mono ?_
      rintro e w2 ⟨A2, c2, rfl, hb2⟩
      go_wp2
      go_ret
      exact ⟨rfl, bt hb1 hb2⟩
    | some b =>
      have h2 := fun W => refSplit_some t ht b hb W
      clear hb
      go_enter Tryz.func123, Tryz.ntmps123
      go_wp2_with fail
      refine h1.out.mono ?_
      rintro e w1 ⟨A1, c1, rfl, hb1⟩
      go_wp2_with fail
      refine (h2 _).mono ?_
      rintro e w2 ⟨A2, c2, rfl, hS2, hb2⟩
      go_wp2
      go_ret
      exact ⟨rfl, bt hb1 hb2⟩
  | some a =>
    have h1 := Lib.hid (refSplit_some s hs a ha w)
    cases hb : pathOf t.data.toList with
    | none =>
      rw [within_none2 hb]
      have h2 := fun W => refSplit_none t ht hb W
      clear hb ha
      go_enter Tryz.func123, Tryz.ntmps123
      go_wp2_with fail
      refine h1.out.mono ?_
      rintro e w1 ⟨A1, c1, rfl, hS1, hb1⟩
      go_wp2_with fail
      refine (h2 _).mono ?_
      rintro e w2 ⟨A2, c2, rfl, hb2⟩
      go_wp2
      go_ret
      exact ⟨rfl, bt hb1 hb2⟩
    | some b =>
      rw [within_some ha hb]
      have h2 := fun W => refSplit_some t ht b hb W
      have hB : Hid (∀ (A1 A2 : Option Addr) (c1 c2 : Nat) (w : World), StrsV w A1 a → StrsV w A2 b → Calls Tryz.prog 192 #[.slice A1 a.length c1, .slice A2 b.length c2] w fun e w' => e = .returned (.bool (b.isPrefixOf a)) ∧ Below w.heap.size w w') := Lib.hid (fun A1 A2 c1 c2 w h h' => begins_any A1 A2 a b c1 c2 w h h')
      obtain ⟨B, hBB⟩ : ∃ B, B = b.isPrefixOf a := ⟨_, rfl⟩
      rw [← hBB] at hB ⊢
      clear hb ha hBB
      go_enter Tryz.func123, Tryz.ntmps123
      go_wp2_with fail
      refine h1.out.mono ?_
      rintro e w1 ⟨A1, c1, rfl, hS1, hb1⟩
      go_wp2_with fail
      refine (h2 _).mono ?_
      rintro e w2 ⟨A2, c2, rfl, hS2, hb2⟩
      go_wp2_with fail
      refine (hB.out _ _ _ _ _ (hS1.below hb2) hS2).mono ?_
      rintro e w3 ⟨rfl, hb3⟩
      go_wp2
      go_ret
      exact ⟨rfl, bt (bt hb1 hb2) hb3⟩

theorem top_take {l : List Bs} {s : Bs} {k : Nat} (hk : k < l.length) (h : (l.take k).all (fun t => t == s || !within s t) = true) (h' : (l[k] == s || !within s l[k]) = true) : (l.take (k + 1)).all (fun t => t == s || !within s t) = true := by
  rw [List.take_succ_eq_append_getElem hk, List.all_append, h]; simpa using h'
theorem top_not {l : List Bs} {s : Bs} {k : Nat} (hk : k < l.length) (h' : (l[k] == s || !within s l[k]) = false) : top l s = false := by
  cases h : top l s with
  | false => rfl
  | true =>
    have := List.all_eq_true.1 h l[k] (List.getElem_mem _)
    rw [h'] at this; cases this

set_option maxHeartbeats 1000000 in
set_option maxRecDepth 100000 in
theorem under_any (A : Option Addr) (l : List Bs) (c : Nat) (s : ByteArray) (hl : ∀ s ∈ l, s.length ≤ 4611686018427387900) (hs : s.size ≤ 4611686018427387900) (w : World) (hS : StrsV w A l) :
    Calls Tryz.prog 66 #[.slice A l.length c, .string s] w fun e w' => e = .returned (.bool (!top l s.data.toList)) ∧ Below w.heap.size w w' := by
  have hm := hS.1
  have HL := Lib.hid hl
  clear hl
  have hSs : Hid (∀ x : ByteArray, x = s ↔ x.data.toList = s.data.toList) := Lib.hid (fun x => ⟨fun e => by rw [e], fun e => by cases x; cases s; simp at e; simp [e]⟩)
  go_enter Tryz.func66, Tryz.ntmps66
  go_wp2
  go_loopw [5] (fun i wr => ∃ k : Nat, i = .int .i64 k ∧ k ≤ l.length ∧ Below w.heap.size w wr ∧ Hid ((l.take k).all (fun t => t == s.data.toList || !within s.data.toList t) = true)) (fun i _ => l.length - (intOf i).toNat)
  case atStart => exact ⟨0, rfl, by omega, Below.refl _ _, Lib.hid (by simp)⟩
  case round =>
    obtain ⟨k, rfl, hk, hb, hall⟩ := hrel
    by_cases hlt : k < l.length
    · obtain ⟨b, o, rfl, hc⟩ := (hS.below hb).at_ k hlt
      have hks : (⟨l[k].toArray⟩ : ByteArray).size ≤ 4611686018427387900 := by show l[k].toArray.size ≤ _; simpa using HL.out l[k] (List.getElem_mem _)
      by_cases hsame : l[k] = s.data.toList
      · have hnext := Lib.hid (top_take hlt hall.out (by rw [beq_iff_eq.2 hsame]; rfl))
        have hb1 : (l[k] != s.toList) = false := by rw [ByteArray.toList_eq, bne_eq_false_iff_eq]; exact hsame
        have hb2 : (l[k] == s.toList) = true := by rw [ByteArray.toList_eq, beq_iff_eq]; exact hsame
        clear hsame
        go_wp2
        go_roundw
        case rel => exact ⟨k + 1, by go_num, by omega, hb, hnext⟩
        case measure => simp [intOf]; omega
      · have hb1 : (l[k] != s.toList) = true := by rw [ByteArray.toList_eq, bne_iff_ne]; exact hsame
        have hb2 : (l[k] == s.toList) = false := by rw [ByteArray.toList_eq, beq_eq_false_iff_ne]; exact hsame
        have hb3 : (l[k] == s.data.toList) = false := by rw [beq_eq_false_iff_ne]; exact hsame
        have h14 := refWithin_any s ⟨l[k].toArray⟩ hs hks wr
        rw [List.toList_toArray] at h14
        have HT := Lib.hid (fun h => top_take hlt hall.out h)
        have HN := Lib.hid (fun h => top_not (s := s.data.toList) hlt h)
        cases hw : within s.data.toList l[k] with
        | true =>
          have hno : Hid (top l s.data.toList = false) := Lib.hid (HN.out (by rw [hb3, hw]; rfl))
          rw [hw] at h14
          have H14 := Lib.hid h14
          clear h14 hw hsame hb3
          go_wp2_with fail
          refine H14.out.mono ?_
          rintro e w5 ⟨rfl, hb5⟩
          go_wp2
          go_ret
          exact ⟨ret_bool (by rw [hno.out]; rfl), bt hb hb5⟩
        | false =>
          have hnext := Lib.hid (HT.out (by rw [hb3, hw]; rfl))
          rw [hw] at h14
          have H14 := Lib.hid h14
          clear h14 hw hsame hb3
          go_wp2_with fail
          refine H14.out.mono ?_
          rintro e w5 ⟨rfl, hb5⟩
          go_wp2
          go_roundw
          case rel => exact ⟨k + 1, by go_num, by omega, bt hb hb5, hnext⟩
          case measure => simp [intOf]; omega
    · have htop : Hid (top l s.data.toList = true) := Lib.hid (by have := hall.out; rwa [List.take_of_length_le (by omega)] at this)
      go_wp2
      go_ret
      exact ⟨ret_bool (by rw [htop.out]; rfl), hb⟩

def joinR (l : List Bs) : Bs := l.flatMap fun s => 47 :: s

theorem joinR_eq : ∀ l : List Bs, l ≠ [] → joinR l = joinP l
  | [], h => absurd rfl h
  | [x], _ => by simp [joinR, joinP, joinC]
  | x :: y :: l, _ => by
    have := joinR_eq (y :: l) (by simp)
    unfold joinP at this ⊢
    unfold joinR at this ⊢
    rw [List.flatMap_cons, this]
    simp [joinC]
theorem joinR_take_le (l : List Bs) (k : Nat) : (joinR (l.take k)).length ≤ (joinR l).length := by
  conv => rhs; rw [← List.take_append_drop k l]
  unfold joinR
  rw [List.flatMap_append, List.length_append]
  omega

set_option maxHeartbeats 1000000 in
set_option maxRecDepth 100000 in
theorem join_any (A : Option Addr) (l : List Bs) (c : Nat) (hl : (joinR l).length ≤ 4611686018427387900) (w : World) (hS : StrsV w A l) :
    Calls Tryz.prog 21 #[.slice A l.length c] w fun e w' => e = .returned (.string ⟨(joinP l).toArray⟩) ∧ Below w.heap.size w w' := by
  have hm := hS.1
  have HL := Lib.hid hl
  clear hl
  go_enter Tryz.func21, Tryz.ntmps21
  go_wp2
  go_loopw [3, 4] (fun v i wr => ∃ (k : Nat) (b : ByteArray), v = .string b ∧ i = .int .i64 k ∧ k ≤ l.length ∧ b.size ≤ 4611686018427387900 ∧ Below w.heap.size w wr ∧ Hid (b.data.toList = joinR (l.take k))) (fun _ i _ => l.length - (intOf i).toNat)
  case atStart => exact ⟨0, ⟨#[]⟩, rfl, rfl, by omega, by decide, Below.refl _ _, Lib.hid (by simp [joinR])⟩
  case round =>
    obtain ⟨k, b, rfl, rfl, hk, hbs, hb, hall⟩ := hrel
    by_cases hlt : k < l.length
    · obtain ⟨bb, o, rfl, hc⟩ := (hS.below hb).at_ k hlt
      have hnext : Hid (joinR (l.take (k + 1)) = joinR (l.take k) ++ 47 :: l[k]) := Lib.hid (by
        unfold joinR
        rw [List.take_succ_eq_append_getElem hlt, List.flatMap_append, List.flatMap_cons, List.flatMap_nil, List.append_nil])
      have hsz : b.size + l[k].length + 1 ≤ 4611686018427387900 := by
        have h1 := joinR_take_le l (k + 1)
        rw [hnext.out, List.length_append, ← hall.out] at h1
        have h2 := HL.out
        have h3 : b.data.toList.length = b.size := by simp
        simp only [List.length_cons] at h1
        omega
      go_wp2
      go_roundw
      case rel =>
        refine ⟨k + 1, _, rfl, by go_num, by omega, ?_, hb, Lib.hid ?_⟩
        · simp only [ByteArray.size_append]
          have h1 : (⟨#[47]⟩ : ByteArray).size = 1 := rfl
          have h2 : (⟨l[k].toArray⟩ : ByteArray).size = l[k].length := by show l[k].toArray.size = _; simp
          omega
        · rw [hnext.out, ← hall.out]
          simp [ByteArray.data_append]
      case measure => simp [intOf]; omega
    · have hfull : Hid (b.data.toList = joinR l) := Lib.hid (by have := hall.out; rwa [List.take_of_length_le (by omega)] at this)
      by_cases h0 : l = []
      · have he : b.toList.isEmpty = true := by rw [ByteArray.toList_eq, hfull.out, h0]; rfl
        have he2 : b.toList = [] := by rw [ByteArray.toList_eq, hfull.out, h0]; rfl
        have hj : Hid (joinP l = [47]) := Lib.hid (by rw [h0]; rfl)
        clear h0
        go_wp2
        go_ret
        exact ⟨by rw [hj.out]; rfl, hb⟩
      · have he : b.toList.isEmpty = false := by
          rw [ByteArray.toList_eq, hfull.out, joinR_eq l h0]; rfl
        have he2 : ¬ b.toList = [] := by rw [ByteArray.toList_eq, hfull.out, joinR_eq l h0]; simp [joinP]
        have hj : Hid (b = ⟨(joinP l).toArray⟩) := Lib.hid (by rw [← joinR_eq l h0, ← hfull.out])
        clear h0
        go_wp2
        go_ret
        exact ⟨by rw [← hj.out]; rfl, hb⟩
end Go.Proofs.YtfofjblkondnbaaGreatDoor.Ch

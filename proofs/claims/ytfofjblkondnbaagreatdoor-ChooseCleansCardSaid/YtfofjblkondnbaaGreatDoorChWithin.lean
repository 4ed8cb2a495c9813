/- The walk of path.Within. -/
import Derived.Test.YtfofjblkondnbaaGreatDoorChPath
namespace Go.Proofs.YtfofjblkondnbaaGreatDoor.Ch
open Go.RowKit Go.Sort

def SplitSome (l : List Bs) (w : World) (e : Ending) (w' : World) : Prop :=
  ∃ (A : Option Addr) (c : Nat), e = .returned (.tuple #[.slice A l.length c, .int .i64 0]) ∧ StrsV w' A l ∧ Below w.heap.size w w'
def SplitNone (w : World) (e : Ending) (w' : World) : Prop :=
  ∃ (A : Option Addr) (c : Nat), e = .returned (.tuple #[.slice A 0 c, .int .i64 20]) ∧ Below w.heap.size w w'
theorem split_some (s : ByteArray) (hs : s.size ≤ 9223372036854775807) (l : List Bs) (h : pathOf s.data.toList = some l) (w : World) (hE : Env w) :
    Calls Tryz.prog 60 #[.string s] w (SplitSome l w) :=
  (split_any s hs w hE).mono fun e w' ⟨A, c, h1, h2, h3⟩ => by
    rw [h] at h1 h2
    exact ⟨A, c, h1, h2, h3⟩
theorem split_none (s : ByteArray) (hs : s.size ≤ 9223372036854775807) (h : pathOf s.data.toList = none) (w : World) (hE : Env w) :
    Calls Tryz.prog 60 #[.string s] w (SplitNone w) :=
  (split_any s hs w hE).mono fun e w' ⟨A, c, h1, h2, h3⟩ => by
    rw [h] at h1 h2
    exact ⟨A, c, h1, h3⟩

theorem prefix_step {a b : List Bs} {k : Nat} (hka : k < a.length) (hkb : k < b.length) (h : (b.take k).isPrefixOf a = true) (he : a[k] = b[k]) : (b.take (k + 1)).isPrefixOf a = true := by
  rw [List.isPrefixOf_iff_prefix] at h ⊢
  obtain ⟨t, ht⟩ := h
  refine ⟨t.drop 1, ?_⟩
  rw [List.take_succ_eq_append_getElem hkb, ← he, List.append_assoc]
  have hl : (b.take k).length = k := by simp; omega
  have : t ≠ [] := fun e => by subst e; rw [List.append_nil] at ht; have := congrArg List.length ht; omega
  obtain ⟨x, t', rfl⟩ := List.exists_cons_of_ne_nil this
  have hx : a[k] = x := by
    simp only [← ht]
    rw [List.getElem_append_right (by omega)]
    simp [hl]
  rw [hx]
  simpa using ht
theorem prefix_not {a b : List Bs} {k : Nat} (hka : k < a.length) (hkb : k < b.length) (he : ¬ a[k] = b[k]) : b.isPrefixOf a = false := by
  cases h : b.isPrefixOf a with
  | false => rfl
  | true =>
    rw [List.isPrefixOf_iff_prefix] at h
    exact absurd (h.getElem hkb).symm he
theorem prefix_len {a b : List Bs} (h : a.length < b.length) : b.isPrefixOf a = false := by
  cases h' : b.isPrefixOf a with
  | false => rfl
  | true =>
    rw [List.isPrefixOf_iff_prefix] at h'
    have := h'.length_le; omega

theorem within_none1 {s t : Bs} (h : pathOf s = none) : within s t = false := by unfold within; rw [h]
theorem within_none2 {s t : Bs} (h : pathOf t = none) : within s t = false := by
  unfold within; rw [h]; cases pathOf s <;> rfl
theorem within_some {s t : Bs} {a b : List Bs} (h : pathOf s = some a) (h' : pathOf t = some b) : within s t = b.isPrefixOf a := by
  unfold within; rw [h, h']

set_option maxHeartbeats 1000000 in
set_option maxRecDepth 100000 in
theorem within_any (s t : ByteArray) (hs : s.size ≤ 9223372036854775807) (ht : t.size ≤ 9223372036854775807) (w : World) (hE : Env w) :
    Calls Tryz.prog 61 #[.string s, .string t] w fun e w' => e = .returned (.bool (within s.data.toList t.data.toList)) ∧ Below w.heap.size w w' := by
  cases ha : pathOf s.data.toList with
  | none =>
    rw [within_none1 ha]
    have h1 := Lib.hid (split_none s hs ha w hE)
    clear ha
    have h2 := fun W (hE : Env W) => split_any t ht W hE
    cases hb : pathOf t.data.toList with
    | none =>
      have h2 := fun W (hE : Env W) => split_none t ht hb W hE
      clear hb
      go_enter Tryz.func61, Tryz.ntmps61
      go_wp2_with fail
      refine h1.out.mono ?_
      rintro e w1 ⟨A1, c1, rfl, hb1⟩
      go_wp2_with fail
      refine (h2 _ (hE.below hb1)).mono ?_
      rintro e w2 ⟨A2, c2, rfl, hb2⟩
      go_wp2
      go_ret
      exact ⟨rfl, bt hb1 hb2⟩
    | some b =>
      have h2 := fun W (hE : Env W) => split_some t ht b hb W hE
      clear hb
      go_enter Tryz.func61, Tryz.ntmps61
      go_wp2_with fail
      refine h1.out.mono ?_
      rintro e w1 ⟨A1, c1, rfl, hb1⟩
      go_wp2_with fail
      refine (h2 _ (hE.below hb1)).mono ?_
      rintro e w2 ⟨A2, c2, rfl, hS2, hb2⟩
      go_wp2
      go_ret
      exact ⟨rfl, bt hb1 hb2⟩
  | some a =>
    have h1 := Lib.hid (split_some s hs a ha w hE)
    cases hb : pathOf t.data.toList with
    | none =>
      rw [within_none2 hb]
      have h2 := fun W (hE : Env W) => split_none t ht hb W hE
      clear hb ha
      go_enter Tryz.func61, Tryz.ntmps61
      go_wp2_with fail
      refine h1.out.mono ?_
      rintro e w1 ⟨A1, c1, rfl, hS1, hb1⟩
      go_wp2_with fail
      refine (h2 _ (hE.below hb1)).mono ?_
      rintro e w2 ⟨A2, c2, rfl, hb2⟩
      go_wp2
      go_ret
      exact ⟨rfl, bt hb1 hb2⟩
    | some b =>
      rw [within_some ha hb]
      have h2 := fun W (hE : Env W) => split_some t ht b hb W hE
      have hla := (pathOf_some ha).2.2.1
      have hlb := (pathOf_some hb).2.2.1
      clear hb ha
      by_cases hlen : a.length < b.length
      · rw [prefix_len hlen]
        go_enter Tryz.func61, Tryz.ntmps61
        go_wp2_with fail
        refine h1.out.mono ?_
        rintro e w1 ⟨A1, c1, rfl, hS1, hb1⟩
        go_wp2_with fail
        refine (h2 _ (hE.below hb1)).mono ?_
        rintro e w2 ⟨A2, c2, rfl, hS2, hb2⟩
        go_wp2
        go_ret
        exact ⟨rfl, bt hb1 hb2⟩
      · go_enter Tryz.func61, Tryz.ntmps61
        go_wp2_with fail
        refine h1.out.mono ?_
        rintro e w1 ⟨A1, c1, rfl, hS1, hb1⟩
        go_wp2_with fail
        refine (h2 _ (hE.below hb1)).mono ?_
        rintro e w2 ⟨A2, c2, rfl, hS2, hb2⟩
        have hS1' := hS1.below hb2
        have hB := bt hb1 hb2
        clear hS1 hb1 hb2
        go_wp2
        go_loop [36] (fun i => ∃ k : Nat, i = .int .i64 k ∧ k ≤ b.length ∧ Hid ((b.take k).isPrefixOf a = true)) (fun i => b.length - (intOf i).toNat)
        case atStart => exact ⟨0, rfl, by omega, Lib.hid (by simp)⟩
        case round =>
          obtain ⟨k, rfl, hk, hall⟩ := hrel
          by_cases hlt : k < b.length
          · have hka : k < a.length := by omega
            obtain ⟨b1, o1, rfl, hc1⟩ := hS1'.at_ k hka
            obtain ⟨b2, o2, rfl, hc2⟩ := hS2.at_ k hlt
            have HSTEP := Lib.hid (@prefix_step a b k hka hlt)
            have HNOT := Lib.hid (@prefix_not a b k hka hlt)
            by_cases he : a[k] = b[k]
            · have HE := Lib.hid he
              rw [he] at hc1
              clear he
              go_wp2
              go_round
              case rel => exact ⟨k + 1, by go_num, by omega, Lib.hid (HSTEP.out hall.out HE.out)⟩
              case measure => simp [intOf]; omega
            · have hne : (a[k] == b[k]) = false := by rw [beq_eq_false_iff_ne]; exact he
              have HE := Lib.hid he
              clear he
              go_wp2
              go_ret
              exact ⟨ret_bool (HNOT.out HE.out).symm, hB⟩
          · have hall' : Hid (b.isPrefixOf a = true) := Lib.hid (by have := hall.out; rwa [List.take_of_length_le (by omega)] at this)
            go_wp2
            go_ret
            exact ⟨ret_bool hall'.out.symm, hB⟩
end Go.Proofs.YtfofjblkondnbaaGreatDoor.Ch

/- The walk of wardshiplaw14.ChooseUp. -/
import Derived.Test.YtfofjblkondnbaaGreatDoorChRef5
import Derived.Test.YtfofjblkondnbaaGreatDoorChLives
namespace Go.Proofs.YtfofjblkondnbaaGreatDoor.Ch
open Go.RowKit Go.Sort

theorem shortB_mem {l : List Bs} (h : shortB l = true) : l.length ≤ 20 ∧ ∀ s ∈ l, s.length ≤ 200 := by
  unfold shortB at h
  rw [Bool.and_eq_true, decide_eq_true_eq, List.all_eq_true] at h
  exact ⟨h.1, fun s hs => by simpa using h.2 s hs⟩

theorem encStr_of (s : ByteArray) : encStr s.data.toList = .string s := by unfold encStr; simp

theorem strsV_one (w : World) (s : ByteArray) : StrsV (w.alloc (.cells #[.string s] 9)) (some ⟨w.heap.size, 0, none⟩) [s.data.toList] :=
  StrsV.made (t := 9) (by simp) (by rw [halloc]; simp [encStr_of])

theorem short_one (w : World) (A : Option Addr) (c : Nat) (s : ByteArray) (hs : s.size ≤ 9223372036854775807) (hS : StrsV w A [s.data.toList]) :
    Calls Tryz.prog 15 #[.slice A 1 c] w fun e w' => e = .returned (.bool (shortB [s.data.toList])) ∧ w = w' :=
  short_any A [s.data.toList] c (by simpa using hs) w hS

theorem strsV_take {w : World} {A : Option Addr} {l : List Bs} (h : StrsV w A l) (k : Nat) : StrsV w A (l.take k) := by
  refine ⟨by rw [List.length_take]; have := h.1; omega, fun hp => ?_⟩
  obtain ⟨b, o, e, hc⟩ := h.2 (by rw [List.length_take] at hp; omega)
  exact ⟨b, o, e, fun j hj => by rw [hc j (by rw [List.length_take] at hj; omega), List.getElem_take]⟩

set_option maxHeartbeats 4000000 in
set_option maxRecDepth 100000 in
theorem up_any (A0 : Option Addr) (l : List Bs) (c0 : Nat) (s : ByteArray) (hl' : ∀ s ∈ l, s.length ≤ 9223372036854775807) (hs : s.size ≤ 9223372036854775807) (w : World) (hE : Env w) (hS0 : StrsV w A0 l) :
    Calls Tryz.prog 4 #[.slice A0 l.length c0, .string s] w fun e w' => e = .returned (.bool true) ∧ Below w.heap.size w w' := by
  have hm := hS0.1
  have HL := Lib.hid hl'
  have hshort := fun W (hS : StrsV W A0 l) => short_any A0 l c0 hl' W hS
  have hshort1 := fun (W : World) => short_one (W.alloc (.cells #[.string s] 9)) (some ⟨W.heap.size, 0, none⟩) 1 s hs (strsV_one W s)
  have hleads := fun W hE hS => leads_any A0 l c0 s hl' hs W hE hS
  clear hl'
  cases hsh : shortB l with
  | false =>
    rw [hsh] at hshort
    have HSH := Lib.hid hshort
    clear hshort hsh hshort1 hleads
    go_enter Tryz.func4, Tryz.ntmps4
    go_wp2_with fail
    refine (lives_any _ hE).mono ?_
    rintro e w1 ⟨rfl, hb1⟩
    go_wp2_with fail
    refine (HSH.out _ (hS0.below hb1)).mono ?_
    rintro e w2 ⟨rfl, rfl⟩
    go_wp2_with fail
    refine (lives_any _ (hE.below hb1)).mono ?_
    rintro e w2 ⟨rfl, hb2⟩
    go_wp2
    go_ret
    exact ⟨rfl, bt hb1 hb2⟩
  | true =>
    rw [hsh] at hshort
    have HSH := Lib.hid hshort
    clear hshort
    cases hsh1 : shortB [s.data.toList] with
    | false =>
      rw [hsh1] at hshort1
      have HSH1 := Lib.hid hshort1
      clear hshort1 hsh hsh1 hleads
      go_enter Tryz.func4, Tryz.ntmps4
      go_wp2_with fail
      refine (lives_any _ hE).mono ?_
      rintro e w1 ⟨rfl, hb1⟩
      go_wp2_with fail
      refine (HSH.out _ (hS0.below hb1)).mono ?_
      rintro e w2 ⟨rfl, rfl⟩
      go_wp2_with fail
      refine (HSH1.out _).mono ?_
      rintro e w2 ⟨rfl, rfl⟩
      have hb2 := bt hb1 (bal w1 (.cells #[.string s] 9))
      go_wp2_with fail
      refine (lives_any _ (hE.below hb2)).mono ?_
      rintro e w3 ⟨rfl, hb3⟩
      go_wp2
      go_ret
      exact ⟨rfl, bt hb2 hb3⟩
    | true =>
      rw [hsh1] at hshort1
      have HSH1 := Lib.hid hshort1
      clear hshort1
      have hs2 : s.size ≤ 4611686018427387900 := by
        have := (shortB_mem hsh1).2 s.data.toList (by simp)
        simp at this
        omega
      have HML := Lib.hid (shortB_mem hsh)
      clear hsh hsh1
      cases hld : leads l s.data.toList with
      | false =>
        rw [hld] at hleads
        have HLD := Lib.hid hleads
        clear hleads hld
        go_enter Tryz.func4, Tryz.ntmps4
        go_wp2_with fail
        refine (lives_any _ hE).mono ?_
        rintro e w1 ⟨rfl, hb1⟩
        go_wp2_with fail
        refine (HSH.out _ (hS0.below hb1)).mono ?_
        rintro e w2 ⟨rfl, rfl⟩
        go_wp2_with fail
        refine (HSH1.out _).mono ?_
        rintro e w2 ⟨rfl, rfl⟩
        have hb2 := bt hb1 (bal w1 (.cells #[.string s] 9))
        go_wp2_with fail
        refine (HLD.out _ (hE.below hb2) (hS0.below hb2)).mono ?_
        rintro e w3 ⟨rfl, hb3⟩
        have hb23 := bt hb2 hb3
        go_wp2_with fail
        refine (lives_any _ (hE.below hb23)).mono ?_
        rintro e w4 ⟨rfl, hb4⟩
        go_wp2
        go_ret
        exact ⟨rfl, bt hb23 hb4⟩
      | true =>
        rw [hld] at hleads
        have HLD := Lib.hid hleads
        clear hleads
        cases hpo : pathOf s.data.toList with
        | none =>
          obtain rfl := leads_invalid hld hpo
          have HSP := Lib.hid (fun W => refSplit_none s hs2 hpo W)
          clear hld hpo
          go_enter Tryz.func4, Tryz.ntmps4
          go_wp2_with fail
          refine (lives_any _ hE).mono ?_
          rintro e w1 ⟨rfl, hb1⟩
          go_wp2_with fail
          refine (HSH.out _ (hS0.below hb1)).mono ?_
          rintro e w2 ⟨rfl, rfl⟩
          go_wp2_with fail
          refine (HSH1.out _).mono ?_
          rintro e w2 ⟨rfl, rfl⟩
          have hb2 := bt hb1 (bal w1 (.cells #[.string s] 9))
          go_wp2_with fail
          refine (HLD.out _ (hE.below hb2) (hS0.below hb2)).mono ?_
          rintro e w3 ⟨rfl, hb3⟩
          have hb23 := bt hb2 hb3
          go_wp2_with fail
          refine (HSP.out _).mono ?_
          rintro e w4 ⟨A4, c4, rfl, hb4⟩
          go_wp2
          go_ret
          exact ⟨rfl, bt hb23 hb4⟩
        | some a =>
          have HSP := Lib.hid (fun W => refSplit_someC s hs2 a hpo W)
          have hal : a.length ≤ 10 := (pathOf_some hpo).2.2.1
          have HJ : Hid (∀ (k : Nat) (hk : k < a.length) (A : Option Addr) (c : Nat) (W : World), StrsV W A a → Calls Tryz.prog 21 #[.slice A k c] W fun e w' => e = .returned (.string ⟨(joinP (a.take k)).toArray⟩) ∧ Below W.heap.size W w') := Lib.hid (fun k hk A c W hS => by
            have := join_any A (a.take k) c (by
              have h1 := joinR_take_le a k
              rw [joinR_eq a (fun e => by rw [e] at hk; simp at hk), ← (pathOf_some hpo).2.1] at h1
              have h2 := (pathOf_some hpo).1
              omega) W (strsV_take hS k)
            rwa [List.length_take, Nat.min_eq_left (by omega)] at this)
          have HLK : Hid (∀ (k : Nat) (W : World) (hE : Env W) (hS : StrsV W A0 l), Calls Tryz.prog 18 #[.slice A0 l.length c0, .string ⟨(joinP (a.take k)).toArray⟩] W fun e w' => e = .returned (.bool true) ∧ Below W.heap.size W w') := Lib.hid (fun k W hE hS => by
            have := leads_any A0 l c0 ⟨(joinP (a.take k)).toArray⟩ HL.out (by
              have h1 := (pathOf_some (pathOf_take hpo k)).1
              show (joinP (a.take k)).toArray.size ≤ _
              rw [List.size_toArray]; omega) W hE hS
            rwa [List.toList_toArray, leads_up hld hpo k] at this)
          clear hld hpo
          go_enter Tryz.func4, Tryz.ntmps4
          go_wp2_with fail
          refine (lives_any _ hE).mono ?_
          rintro e w1 ⟨rfl, hb1⟩
          go_wp2_with fail
          refine (HSH.out _ (hS0.below hb1)).mono ?_
          rintro e w2 ⟨rfl, rfl⟩
          go_wp2_with fail
          refine (HSH1.out _).mono ?_
          rintro e w2 ⟨rfl, rfl⟩
          have hb2 := bt hb1 (bal w1 (.cells #[.string s] 9))
          go_wp2_with fail
          refine (HLD.out _ (hE.below hb2) (hS0.below hb2)).mono ?_
          rintro e w3 ⟨rfl, hb3⟩
          have hb23 := bt hb2 hb3
          go_wp2_with fail
          refine (HSP.out _).mono ?_
          rintro e w4 ⟨A4, c4, rfl, hS4, hb4, hc4, hc5⟩
          have hb24 := bt hb23 hb4
          have hE4 := hE.below hb24
          have hS04 := hS0.below hb24
          go_wp2
          go_loopw [7, 40] (fun _ i wr => ∃ k : Nat, i = .int .i64 k ∧ k ≤ a.length ∧ Below w4.heap.size w4 wr) (fun _ i _ => a.length - (intOf i).toNat)
          case atStart => exact ⟨0, rfl, by omega, Below.refl _ _⟩
          case round =>
            obtain ⟨k, rfl, hk, hb⟩ := hrel
            by_cases hlt : k < a.length
            · go_wp2_with fail
              refine (HJ.out k hlt _ _ _ (hS4.below hb)).mono ?_
              rintro e w5 ⟨rfl, hb5⟩
              have hb45 := bt hb hb5
              go_wp2_with fail
              refine (HLK.out k _ (hE4.below hb45) (hS04.below hb45)).mono ?_
              rintro e w6 ⟨rfl, hb6⟩
              go_wp2
              go_roundw
              case rel => exact ⟨k + 1, by go_num, by omega, bt hb45 hb6⟩
              case measure => simp [intOf]; omega
            · go_wp2
              go_ret
              exact ⟨rfl, bt hb24 hb⟩
end Go.Proofs.YtfofjblkondnbaaGreatDoor.Ch

/- The walk of ChooseCleans: for every list of texts it returns true. -/
import Derived.Test.YtfofjblkondnbaaGreatDoorChLives
import Derived.Test.YtfofjblkondnbaaGreatDoorChRefClean
import Derived.Test.YtfofjblkondnbaaGreatDoorChUp
namespace Go.Proofs.YtfofjblkondnbaaGreatDoor.Ch
open Go.RowKit Go.Sort

set_option maxHeartbeats 4000000 in
set_option maxRecDepth 100000 in
theorem cleans_any (A0 : Option Addr) (l : List Bs) (c0 : Nat) (hl' : ∀ s ∈ l, s.length ≤ 9223372036854775807) (w : World) (hE : Env w) (hS0 : StrsV w A0 l) :
    Calls Tryz.prog 5 #[.slice A0 l.length c0] w fun e w' => e = .returned (.bool true) ∧ Below w.heap.size w w' := by
  have hshort := fun W (hS : StrsV W A0 l) => short_any A0 l c0 hl' W hS
  cases hsh : shortB l with
  | false =>
    rw [hsh] at hshort
    have HSH := Lib.hid hshort
    clear hshort hsh hl'
    go_enter Tryz.func5, Tryz.ntmps5
    go_wp2_with fail
    refine (lives_any _ hE).mono ?_
    rintro e w1 ⟨rfl, hb1⟩
    go_wp2_with fail
    refine (HSH.out _ (hS0.below hb1)).mono ?_
    rintro e w2 ⟨rfl, rfl⟩
    go_wp2_with fail
    refine (lives_any _ (hE.below hb1)).mono ?_
    rintro e w2 ⟨rfl, hb2⟩
    go_wp2
    go_ret
    exact ⟨rfl, bt hb1 hb2⟩
  | true =>
    rw [hsh] at hshort
    have HSH := Lib.hid hshort
    have hll : l.length ≤ 20 := (shortB_mem hsh).1
    have hml : ∀ s ∈ l, s.length ≤ 4611686018427387900 := fun s hs => by have := (shortB_mem hsh).2 s hs; omega
    have HL := Lib.hid hl'
    have HML := Lib.hid hml
    have HCL : Hid (∀ A c W, Env W → StrsV W A l → Calls Tryz.prog 16 #[.slice A l.length c] W (CleanPost l W)) := Lib.hid (fun A c W hE hS => clean_any A l c hl' (by omega) W hE hS)
    have HRC : Hid (∀ A c W, StrsV W A l → Calls Tryz.prog 22 #[.slice A l.length c] W (CleanPost l W)) := Lib.hid (fun A c W hS => refClean_any A l c hml (by omega) W hS)
    have HSA : Hid (∀ (A1 A2 : Option Addr) (a : List Bs) (c1 c2 : Nat) (W : World), StrsV W A1 a → StrsV W A2 a → Calls Tryz.prog 23 #[.slice A1 a.length c1, .slice A2 a.length c2] W fun e w' => e = .returned (.bool true) ∧ Below W.heap.size W w') := Lib.hid (fun A1 A2 a c1 c2 W h1 h2 => by
      have := same_any A1 A2 a a c1 c2 W h1 h2
      rwa [show (a == a) = true from by simp] at this)
    have HCK : Hid (∀ A c W, Env W → StrsV W A l → Calls Tryz.prog 24 #[.slice A l.length c] W fun e w' => e = .returned (.int .i64 (checkL l)) ∧ Below W.heap.size W w') := Lib.hid (fun A c W hE hS => check_any A l c hl' W hE hS)
    have HRK : Hid (∀ A c W, StrsV W A l → Calls Tryz.prog 25 #[.slice A l.length c] W fun e w' => e = .returned (.int .i64 (checkL l)) ∧ Below W.heap.size W w') := Lib.hid (fun A c W hS => refCheck_any A l c hml W hS)
    have HCK2 : Hid ((cleanL l).2 = 0 → ∀ A c W, Env W → StrsV W A (cleanL l).1 → Calls Tryz.prog 24 #[.slice A (cleanL l).1.length c] W fun e w' => e = .returned (.int .i64 0) ∧ Below W.heap.size W w') := Lib.hid (fun hz A c W hE hS => by
      have hs : ∀ s ∈ (cleanL l).1, s.length ≤ 9223372036854775807 := fun s hs => hl' s (((cleanL_zero hz).2.1.mem s).1 hs).1
      have := check_any A (cleanL l).1 c hs W hE hS
      rwa [checkL_clean hz] at this)
    obtain ⟨i0, hi, hz0, hz1, hz2⟩ := info_parts info_str
    have hSl := Lib.hid hS0
    clear hshort hsh hl' hml
    have hpost : Hid (∀ W e w', CleanPost l W e w' → ∃ A c, e = .returned (.tuple #[.slice A (cleanL l).1.length c, .int .i64 (cleanL l).2]) ∧ StrsV w' A (cleanL l).1 ∧ Below W.heap.size W w') := Lib.hid (fun _ _ _ h => h)
    obtain ⟨out, hout⟩ : ∃ out, out = (cleanL l).1 := ⟨_, rfl⟩
    obtain ⟨z, hz⟩ : ∃ z, z = (cleanL l).2 := ⟨_, rfl⟩
    obtain ⟨ck, hck⟩ : ∃ ck, ck = checkL l := ⟨_, rfl⟩
    rw [← hout, ← hz] at hpost HCK2
    rw [← hck] at HCK HRK
    clear hout hz hck
    by_cases hz : z = 0
    · subst hz
      have HC2 := Lib.hid (HCK2.out rfl)
      go_enter Tryz.func5, Tryz.ntmps5
      go_wp2_with fail
      refine (lives_any _ hE).mono ?_
      rintro e w1 ⟨rfl, hb1⟩
      go_wp2_with fail
      refine (HSH.out _ (hS0.below hb1)).mono ?_
      rintro e w2 ⟨rfl, rfl⟩
      go_wp2_with (at_builtin; refine append_list _ rfl (.tmp 16) (.tmp 17) 22 rfl w1.heap.size 9 i0 (.string ByteArray.empty) 1 16 Tryz.underlying22 hi hz0 hz1 hz2 rfl (by decide) _ 0 [] rfl (own_lit w1 9 1 0 #[] rfl (by decide)) A0 l.length c0 (l.map encStr) rfl (by simp) (((strsV_at hS0).below hb1).below (bal w1 _)) (one_str l) (by unfold maxLen; omega) (by omega) (by simp) ?_; intro v3 w3 hown3 hgrow3 hat3)
      have hb3 : Below w1.heap.size w1 w3 := below_grown (bal w1 (.cells #[] 9)) hgrow3 (fun q e => Nat.le_of_eq (Option.some.inj e))
      have hown3' : w3.ownsRow w1.heap.size 9 1 v3 l.length (l.map encStr) := by simpa using hown3
      obtain ⟨A3, c3, rfl, hn3, hc3, hAt3⟩ := own_form hown3'
      have hS3 : StrsV w3 A3 l := strsV_of_at (by omega) hAt3
      have hb03 := bt hb1 hb3
      clear hown3 hown3' hgrow3 hat3 hAt3
      refine (HCL.out A3 c3 w3 (hE.below hb03) hS3).mono ?_
      intro e w4 h4
      obtain ⟨A4, c4, rfl, hS4, hb4⟩ := hpost.out _ _ _ h4
      clear h4
      have hb04 := bt hb03 hb4
      go_wp2_with fail
      refine (HRC.out A0 c0 w4 (hS0.below hb04)).mono ?_
      intro e w5 h5
      obtain ⟨A5, c5, rfl, hS5, hb5⟩ := hpost.out _ _ _ h5
      clear h5
      have hb05 := bt hb04 hb5
      have hS45 := hS4.below hb5
      go_wp2_with fail
      refine (HSA.out A4 A5 out c4 c5 w5 hS45 hS5).mono ?_
      rintro e w6 ⟨rfl, hb6⟩
      have hb06 := bt hb05 hb6
      have hS36 := ((hS3.below hb4).below hb5).below hb6
      go_wp2_with fail
      refine (HSA.out A3 A0 l c3 c0 w6 hS36 (hS0.below hb06)).mono ?_
      rintro e w7 ⟨rfl, hb7⟩
      have hb07 := bt hb06 hb7
      go_wp2_with fail
      refine (HCK.out A0 c0 w7 (hE.below hb07) (hS0.below hb07)).mono ?_
      rintro e w8 ⟨rfl, hb8⟩
      have hb08 := bt hb07 hb8
      go_wp2_with fail
      refine (HRK.out A0 c0 w8 (hS0.below hb08)).mono ?_
      rintro e w9 ⟨rfl, hb9'⟩
      have hb9 := bt hb08 hb9'
      have hE9 := hE.below hb9
      have hS9 : StrsV w9 A4 out := ((hS45.below hb6).below hb7 |>.below hb8).below hb9'
      go_wp2_with fail
      refine (HC2.out _ _ _ hE9 hS9).mono ?_
      rintro e w10 ⟨rfl, hb10⟩
      go_wp2
      go_ret
      exact ⟨rfl, bt hb9 hb10⟩
    · have hzb : (z != 0) = true := by rw [bne_iff_ne]; exact hz
      clear HCK2
      go_enter Tryz.func5, Tryz.ntmps5
      go_wp2_with fail
      refine (lives_any _ hE).mono ?_
      rintro e w1 ⟨rfl, hb1⟩
      go_wp2_with fail
      refine (HSH.out _ (hS0.below hb1)).mono ?_
      rintro e w2 ⟨rfl, rfl⟩
      go_wp2_with (at_builtin; refine append_list _ rfl (.tmp 16) (.tmp 17) 22 rfl w1.heap.size 9 i0 (.string ByteArray.empty) 1 16 Tryz.underlying22 hi hz0 hz1 hz2 rfl (by decide) _ 0 [] rfl (own_lit w1 9 1 0 #[] rfl (by decide)) A0 l.length c0 (l.map encStr) rfl (by simp) (((strsV_at hS0).below hb1).below (bal w1 _)) (one_str l) (by unfold maxLen; omega) (by omega) (by simp) ?_; intro v3 w3 hown3 hgrow3 hat3)
      have hb3 : Below w1.heap.size w1 w3 := below_grown (bal w1 (.cells #[] 9)) hgrow3 (fun q e => Nat.le_of_eq (Option.some.inj e))
      have hown3' : w3.ownsRow w1.heap.size 9 1 v3 l.length (l.map encStr) := by simpa using hown3
      obtain ⟨A3, c3, rfl, hn3, hc3, hAt3⟩ := own_form hown3'
      have hS3 : StrsV w3 A3 l := strsV_of_at (by omega) hAt3
      have hb03 := bt hb1 hb3
      clear hown3 hown3' hgrow3 hat3 hAt3
      refine (HCL.out A3 c3 w3 (hE.below hb03) hS3).mono ?_
      intro e w4 h4
      obtain ⟨A4, c4, rfl, hS4, hb4⟩ := hpost.out _ _ _ h4
      clear h4
      have hb04 := bt hb03 hb4
      go_wp2_with fail
      refine (HRC.out A0 c0 w4 (hS0.below hb04)).mono ?_
      intro e w5 h5
      obtain ⟨A5, c5, rfl, hS5, hb5⟩ := hpost.out _ _ _ h5
      clear h5
      have hb05 := bt hb04 hb5
      have hS45 := hS4.below hb5
      go_wp2_with fail
      refine (HSA.out A4 A5 out c4 c5 w5 hS45 hS5).mono ?_
      rintro e w6 ⟨rfl, hb6⟩
      have hb06 := bt hb05 hb6
      have hS36 := ((hS3.below hb4).below hb5).below hb6
      go_wp2_with fail
      refine (HSA.out A3 A0 l c3 c0 w6 hS36 (hS0.below hb06)).mono ?_
      rintro e w7 ⟨rfl, hb7⟩
      have hb07 := bt hb06 hb7
      go_wp2_with fail
      refine (HCK.out A0 c0 w7 (hE.below hb07) (hS0.below hb07)).mono ?_
      rintro e w8 ⟨rfl, hb8⟩
      have hb08 := bt hb07 hb8
      go_wp2_with fail
      refine (HRK.out A0 c0 w8 (hS0.below hb08)).mono ?_
      rintro e w9 ⟨rfl, hb9'⟩
      have hb9 := bt hb08 hb9'
      have hE9 := hE.below hb9
      have hS9 : StrsV w9 A4 out := ((hS45.below hb6).below hb7 |>.below hb8).below hb9'
      go_wp2
      go_ret
      exact ⟨rfl, hb9⟩
end Go.Proofs.YtfofjblkondnbaaGreatDoor.Ch

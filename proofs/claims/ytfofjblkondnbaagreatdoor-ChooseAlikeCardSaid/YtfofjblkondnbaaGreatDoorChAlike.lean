/- The walk of wardshiplaw14.ChooseAlike. -/
import Derived.Test.YtfofjblkondnbaaGreatDoorChUp
namespace Go.Proofs.YtfofjblkondnbaaGreatDoor.Ch
open Go.RowKit Go.Sort

theorem strsV_two (w : World) (s t : ByteArray) : StrsV (w.alloc (.cells #[.string s, .string t] 9)) (some ⟨w.heap.size, 0, none⟩) [s.data.toList, t.data.toList] :=
  StrsV.made (t := 9) (by simp) (by rw [halloc]; simp [encStr_of])

theorem short_two (w : World) (A : Option Addr) (c : Nat) (s t : ByteArray) (hs : s.size ≤ 9223372036854775807) (ht : t.size ≤ 9223372036854775807) (hS : StrsV w A [s.data.toList, t.data.toList]) :
    Calls Tryz.prog 15 #[.slice A 2 c] w fun e w' => e = .returned (.bool (shortB [s.data.toList, t.data.toList])) ∧ w = w' :=
  short_any A [s.data.toList, t.data.toList] c (by simpa using ⟨hs, ht⟩) w hS

set_option maxHeartbeats 4000000 in
set_option maxRecDepth 100000 in
theorem alike_any (A0 : Option Addr) (l : List Bs) (c0 : Nat) (s t : ByteArray) (hl' : ∀ s ∈ l, s.length ≤ 9223372036854775807) (hs : s.size ≤ 9223372036854775807) (ht : t.size ≤ 9223372036854775807) (w : World) (hE : Env w) (hS0 : StrsV w A0 l) :
    Calls Tryz.prog 3 #[.slice A0 l.length c0, .string s, .string t] w fun e w' => e = .returned (.bool true) ∧ Below w.heap.size w w' := by
  have hm := hS0.1
  have HL := Lib.hid hl'
  have hshort := fun W (hS : StrsV W A0 l) => short_any A0 l c0 hl' W hS
  have hshort1 := fun (W : World) => short_two (W.alloc (.cells #[.string s, .string t] 9)) (some ⟨W.heap.size, 0, none⟩) 2 s t hs ht (strsV_two W s t)
  have hhas := fun W hE hS => has_any A0 l c0 s hl' hs W hE hS
  have hleads := fun W hE hS => leads_any A0 l c0 s hl' hs W hE hS
  clear hl'
  cases hsh : shortB l with
  | false =>
    rw [hsh] at hshort
    have HSH := Lib.hid hshort
    clear hshort hsh hshort1 hleads hhas
    go_enter Tryz.func3, Tryz.ntmps3
    go_wp2_with fail
    refine (lives_any _ hE).mono ?_
    rintro e w1 ⟨rfl, hb1⟩
    go_wp2_with fail
    refine (HSH.out _ (hS0.below hb1)).mono ?_
    rintro e w2 ⟨rfl, rfl⟩
    go_wp2_with fail
    refine (lives_any _ (hE.below hb1)).mono ?_
    rintro e w2 ⟨rfl, hb2⟩
    go_wp2
    go_ret
    exact ⟨rfl, bt hb1 hb2⟩
  | true =>
    rw [hsh] at hshort
    have HSH := Lib.hid hshort
    clear hshort
    cases hsh1 : shortB [s.data.toList, t.data.toList] with
    | false =>
      rw [hsh1] at hshort1
      have HSH1 := Lib.hid hshort1
      clear hshort1 hsh hsh1 hleads hhas
      go_enter Tryz.func3, Tryz.ntmps3
      go_wp2_with fail
      refine (lives_any _ hE).mono ?_
      rintro e w1 ⟨rfl, hb1⟩
      go_wp2_with fail
      refine (HSH.out _ (hS0.below hb1)).mono ?_
      rintro e w2 ⟨rfl, rfl⟩
      go_wp2_with fail
      refine (HSH1.out _).mono ?_
      rintro e w2 ⟨rfl, rfl⟩
      have hb2 := bt hb1 (bal w1 (.cells #[.string s, .string t] 9))
      go_wp2_with fail
      refine (lives_any _ (hE.below hb2)).mono ?_
      rintro e w3 ⟨rfl, hb3⟩
      go_wp2
      go_ret
      exact ⟨rfl, bt hb2 hb3⟩
    | true =>
      rw [hsh1] at hshort1
      have HSH1 := Lib.hid hshort1
      clear hshort1
      have hs2 : s.size ≤ 200 := by
        have := (shortB_mem hsh1).2 s.data.toList (by simp)
        simpa using this
      have ht2 : t.size ≤ 200 := by
        have := (shortB_mem hsh1).2 t.data.toList (by simp)
        simpa using this
      have hll : l.length ≤ 20 := (shortB_mem hsh).1
      clear hsh hsh1
      by_cases hz : (cleanL l).2 = 0
      · have hcl := fun W hE hS => clean_any A0 l c0 HL.out (by omega) W hE hS
        have hout : ∀ W e w', CleanPost l W e w' → ∃ A c, e = .returned (.tuple #[.slice A (cleanL l).1.length c, .int .i64 0]) ∧ StrsV w' A (cleanL l).1 ∧ Below W.heap.size W w' := fun W e w' ⟨A, c, h1, h2, h3⟩ => ⟨A, c, by rw [h1, hz], h2, h3⟩
        obtain ⟨hp, hc, h8⟩ := cleanL_zero hz
        have hOL : ∀ s ∈ (cleanL l).1, s.length ≤ 9223372036854775807 := fun s hs => HL.out s ((hc.mem s).1 hs).1
        have HHAS2 := Lib.hid (fun A c W hE hS => by
          have := has_any A (cleanL l).1 c s hOL hs W hE hS
          rw [hc.has hp] at this
          exact this)
        have HLEADS2 := Lib.hid (fun A c W hE hS => by
          have := leads_any A (cleanL l).1 c s hOL hs W hE hS
          rw [hc.leads hp] at this
          exact this)
        have HCL := Lib.hid hcl
        have HOUT := Lib.hid hout
        have HPATH := Lib.hid (fun W => refPath_any (s ++ ⟨#[47]⟩ ++ t) (by simp only [ByteArray.size_append]; have : (⟨#[47]⟩ : ByteArray).size = 1 := rfl; omega) W)
        have HLAST : Hid (isPath (s ++ ⟨#[47]⟩ ++ t).data.toList = true → has l s.data.toList = true → ∀ W hE hS, Calls Tryz.prog 17 #[.slice A0 l.length c0, .string (s ++ ⟨#[47]⟩ ++ t)] W fun e w' => e = .returned (.bool true) ∧ Below W.heap.size W w') := Lib.hid (fun h1 h2 W (hE : Env W) (hS : StrsV W A0 l) => by
          have := has_any A0 l c0 (s ++ ⟨#[47]⟩ ++ t) HL.out (by simp only [ByteArray.size_append]; have : (⟨#[47]⟩ : ByteArray).size = 1 := rfl; omega) W hE hS
          have e : (s ++ ⟨#[47]⟩ ++ t).data.toList = s.data.toList ++ 47 :: t.data.toList := by simp [ByteArray.data_append]
          rw [e] at this h1
          rwa [has_below h2 h1] at this)
        clear hcl hout hz hp hc hOL
        generalize (cleanL l).1 = out at *
        obtain ⟨BL, hBL⟩ : ∃ BL, BL = leads l s.data.toList := ⟨_, rfl⟩
        rw [← hBL] at hleads HLEADS2
        obtain ⟨BP, hBP⟩ : ∃ BP, BP = isPath (s ++ ⟨#[47]⟩ ++ t).data.toList := ⟨_, rfl⟩
        rw [← hBP] at HPATH HLAST
        have HLEADS := Lib.hid hleads
        clear hleads hBL hBP
        cases hh : has l s.data.toList with
        | false =>
          rw [hh] at hhas HHAS2
          have HHAS := Lib.hid hhas
          clear hhas hh
          go_enter Tryz.func3, Tryz.ntmps3
          go_wp2_with fail
          refine (lives_any _ hE).mono ?_
          rintro e w1 ⟨rfl, hb1⟩
          go_wp2_with fail
          refine (HSH.out _ (hS0.below hb1)).mono ?_
          rintro e w2 ⟨rfl, rfl⟩
          go_wp2_with fail
          refine (HSH1.out _).mono ?_
          rintro e w2 ⟨rfl, rfl⟩
          have hb2 := bt hb1 (bal w1 (.cells #[.string s, .string t] 9))
          go_wp2_with fail
          refine (HCL.out _ (hE.below hb2) (hS0.below hb2)).mono ?_
          intro e w3 hpost
          obtain ⟨A3, c3, rfl, hS3, hb3⟩ := HOUT.out _ _ _ hpost
          clear hpost
          have hb03 := bt hb2 hb3
          go_wp2_with fail
          refine (HHAS2.out _ _ _ (hE.below hb03) hS3).mono ?_
          rintro e w4 ⟨rfl, hb4⟩
          have hb04 := bt hb03 hb4
          have hS4 := hS3.below hb4
          go_wp2_with fail
          refine (HHAS.out _ (hE.below hb04) (hS0.below hb04)).mono ?_
          rintro e w5 ⟨rfl, hb5⟩
          have hb05 := bt hb04 hb5
          have hS5 := hS4.below hb5
          go_wp2_with fail
          refine (HLEADS2.out _ _ _ (hE.below hb05) hS5).mono ?_
          rintro e w6 ⟨rfl, hb6⟩
          have hb06 := bt hb05 hb6
          go_wp2_with fail
          refine (HLEADS.out _ (hE.below hb06) (hS0.below hb06)).mono ?_
          rintro e w7 ⟨rfl, hb7⟩
          have hb07 := bt hb06 hb7
          go_wp2_with fail
          refine (HHAS.out _ (hE.below hb07) (hS0.below hb07)).mono ?_
          rintro e w8 ⟨rfl, hb8⟩
          have hb08 := bt hb07 hb8
          go_wp2
          go_ret
          exact ⟨rfl, hb08⟩
        | true =>
          rw [hh] at hhas HHAS2
          have HHAS := Lib.hid hhas
          have HLAST2 := Lib.hid (fun h => HLAST.out h hh)
          clear hhas hh HLAST
          cases BP with
          | false =>
            go_enter Tryz.func3, Tryz.ntmps3
            go_wp2_with fail
            refine (lives_any _ hE).mono ?_
            rintro e w1 ⟨rfl, hb1⟩
            go_wp2_with fail
            refine (HSH.out _ (hS0.below hb1)).mono ?_
            rintro e w2 ⟨rfl, rfl⟩
            go_wp2_with fail
            refine (HSH1.out _).mono ?_
            rintro e w2 ⟨rfl, rfl⟩
            have hb2 := bt hb1 (bal w1 (.cells #[.string s, .string t] 9))
            go_wp2_with fail
            refine (HCL.out _ (hE.below hb2) (hS0.below hb2)).mono ?_
            intro e w3 hpost
            obtain ⟨A3, c3, rfl, hS3, hb3⟩ := HOUT.out _ _ _ hpost
            clear hpost
            have hb03 := bt hb2 hb3
            go_wp2_with fail
            refine (HHAS2.out _ _ _ (hE.below hb03) hS3).mono ?_
            rintro e w4 ⟨rfl, hb4⟩
            have hb04 := bt hb03 hb4
            have hS4 := hS3.below hb4
            go_wp2_with fail
            refine (HHAS.out _ (hE.below hb04) (hS0.below hb04)).mono ?_
            rintro e w5 ⟨rfl, hb5⟩
            have hb05 := bt hb04 hb5
            have hS5 := hS4.below hb5
            go_wp2_with fail
            refine (HLEADS2.out _ _ _ (hE.below hb05) hS5).mono ?_
            rintro e w6 ⟨rfl, hb6⟩
            have hb06 := bt hb05 hb6
            go_wp2_with fail
            refine (HLEADS.out _ (hE.below hb06) (hS0.below hb06)).mono ?_
            rintro e w7 ⟨rfl, hb7⟩
            have hb07 := bt hb06 hb7
            go_wp2_with fail
            refine (HHAS.out _ (hE.below hb07) (hS0.below hb07)).mono ?_
            rintro e w8 ⟨rfl, hb8⟩
            have hb08 := bt hb07 hb8
            go_wp2_with fail
            refine (HPATH.out _).mono ?_
            rintro e w9 ⟨rfl, hb9⟩
            go_wp2
            go_ret
            exact ⟨rfl, bt hb08 hb9⟩
          | true =>
            have HLAST3 := Lib.hid (HLAST2.out rfl)
            clear HLAST2
            go_enter Tryz.func3, Tryz.ntmps3
            go_wp2_with fail
            refine (lives_any _ hE).mono ?_
            rintro e w1 ⟨rfl, hb1⟩
            go_wp2_with fail
            refine (HSH.out _ (hS0.below hb1)).mono ?_
            rintro e w2 ⟨rfl, rfl⟩
            go_wp2_with fail
            refine (HSH1.out _).mono ?_
            rintro e w2 ⟨rfl, rfl⟩
            have hb2 := bt hb1 (bal w1 (.cells #[.string s, .string t] 9))
            go_wp2_with fail
            refine (HCL.out _ (hE.below hb2) (hS0.below hb2)).mono ?_
            intro e w3 hpost
            obtain ⟨A3, c3, rfl, hS3, hb3⟩ := HOUT.out _ _ _ hpost
            clear hpost
            have hb03 := bt hb2 hb3
            go_wp2_with fail
            refine (HHAS2.out _ _ _ (hE.below hb03) hS3).mono ?_
            rintro e w4 ⟨rfl, hb4⟩
            have hb04 := bt hb03 hb4
            have hS4 := hS3.below hb4
            go_wp2_with fail
            refine (HHAS.out _ (hE.below hb04) (hS0.below hb04)).mono ?_
            rintro e w5 ⟨rfl, hb5⟩
            have hb05 := bt hb04 hb5
            have hS5 := hS4.below hb5
            go_wp2_with fail
            refine (HLEADS2.out _ _ _ (hE.below hb05) hS5).mono ?_
            rintro e w6 ⟨rfl, hb6⟩
            have hb06 := bt hb05 hb6
            go_wp2_with fail
            refine (HLEADS.out _ (hE.below hb06) (hS0.below hb06)).mono ?_
            rintro e w7 ⟨rfl, hb7⟩
            have hb07 := bt hb06 hb7
            go_wp2_with fail
            refine (HHAS.out _ (hE.below hb07) (hS0.below hb07)).mono ?_
            rintro e w8 ⟨rfl, hb8⟩
            have hb08 := bt hb07 hb8
            go_wp2_with fail
            refine (HPATH.out _).mono ?_
            rintro e w9 ⟨rfl, hb9⟩
            have hb09 := bt hb08 hb9
            go_wp2_with fail
            refine (HLAST3.out _ (hE.below hb09) (hS0.below hb09)).mono ?_
            rintro e w10 ⟨rfl, hb10⟩
            go_wp2
            go_ret
            exact ⟨rfl, bt hb09 hb10⟩
      · have hcl := fun W hE hS => clean_any A0 l c0 HL.out (by omega) W hE hS
        have hout : ∀ W e w', CleanPost l W e w' → ∃ A c, e = .returned (.tuple #[.slice A 0 c, .int .i64 (cleanL l).2]) ∧ Below W.heap.size W w' := fun W e w' ⟨A, c, h1, h2, h3⟩ => ⟨A, c, by rw [h1, cleanL_not hz]; rfl, h3⟩
        have hz1 : ((cleanL l).2 != 0) = true := by rw [bne_iff_ne]; exact hz
        have HCL := Lib.hid hcl
        have HOUT := Lib.hid hout
        clear hcl hout hz hhas hleads
        generalize (cleanL l).2 = z at *
        go_enter Tryz.func3, Tryz.ntmps3
        go_wp2_with fail
        refine (lives_any _ hE).mono ?_
        rintro e w1 ⟨rfl, hb1⟩
        go_wp2_with fail
        refine (HSH.out _ (hS0.below hb1)).mono ?_
        rintro e w2 ⟨rfl, rfl⟩
        go_wp2_with fail
        refine (HSH1.out _).mono ?_
        rintro e w2 ⟨rfl, rfl⟩
        have hb2 := bt hb1 (bal w1 (.cells #[.string s, .string t] 9))
        go_wp2_with fail
        refine (HCL.out _ (hE.below hb2) (hS0.below hb2)).mono ?_
        intro e w3 hpost
        obtain ⟨A3, c3, rfl, hb3⟩ := HOUT.out _ _ _ hpost
        clear hpost
        have hb03 := bt hb2 hb3
        go_wp2
        go_ret
        exact ⟨rfl, hb03⟩
end Go.Proofs.YtfofjblkondnbaaGreatDoor.Ch

/- The walks of the laws' helpers: short, same, lives. -/
import Derived.Test.YtfofjblkondnbaaGreatDoorChHas
import Derived.Test.YtfofjblkondnbaaGreatDoorChClean
namespace Go.Proofs.YtfofjblkondnbaaGreatDoor.Ch
open Go.RowKit Go.Sort

def shortB (l : List Bs) : Bool := decide (l.length ≤ 20) && l.all fun s => decide (s.length ≤ 200)

set_option maxHeartbeats 1000000 in
set_option maxRecDepth 100000 in
theorem short_any (A : Option Addr) (l : List Bs) (c : Nat) (hl : ∀ s ∈ l, s.length ≤ 9223372036854775807) (w : World) (hS : StrsV w A l) :
    Calls Tryz.prog 15 #[.slice A l.length c] w fun e w' => e = .returned (.bool (shortB l)) ∧ w = w' := by
  have hm := hS.1
  by_cases h20 : 20 < l.length
  · have hb : Hid (shortB l = false) := Lib.hid (by have : ¬ l.length ≤ 20 := by omega
                                                    simp [shortB, this])
    go_enter Tryz.func15, Tryz.ntmps15
    go_wp2
    go_ret
    exact ⟨ret_bool hb.out.symm, rfl⟩
  · have hb : Hid (shortB l = l.all fun s => decide (s.length ≤ 200)) := Lib.hid (by have : l.length ≤ 20 := by omega
                                                                                     simp [shortB, this])
    have HL := Lib.hid hl
    clear hl
    go_enter Tryz.func15, Tryz.ntmps15
    go_wp2
    go_loop [10] (fun i => ∃ k : Nat, i = .int .i64 k ∧ k ≤ l.length ∧ Hid ((l.take k).all (fun s => decide (s.length ≤ 200)) = true)) (fun i => l.length - (intOf i).toNat)
    case atStart => exact ⟨0, rfl, by omega, Lib.hid (by simp)⟩
    case round =>
      obtain ⟨k, rfl, hk, hall⟩ := hrel
      by_cases hlt : k < l.length
      · obtain ⟨b, o, rfl, hc⟩ := hS.at_ k hlt
        have hts : (l.take (k + 1)).all (fun s => decide (s.length ≤ 200)) = ((l.take k).all (fun s => decide (s.length ≤ 200)) && decide (l[k].length ≤ 200)) := by
          rw [List.take_succ_eq_append_getElem hlt, List.all_append]; simp
        have HTS := Lib.hid hts
        have hbad : Hid (200 < l[k].length → l.all (fun s => decide (s.length ≤ 200)) = false) := Lib.hid fun h => by
          rw [← List.take_append_drop (k + 1) l, List.all_append, HTS.out, decide_eq_false (by omega)]; simp
        have hsz := HL.out l[k] (List.getElem_mem _)
        clear hts
        by_cases h2 : 200 < l[k].length
        · go_wp2
          go_ret
          exact ⟨ret_bool (by rw [hb.out, hbad.out h2]), rfl⟩
        · go_wp2
          go_round
          case rel => exact ⟨k + 1, by go_num, by omega, Lib.hid (by rw [HTS.out, hall.out, decide_eq_true (by omega)]; rfl)⟩
          case measure => simp [intOf]; omega
      · have hall' : Hid (l.all (fun s => decide (s.length ≤ 200)) = true) := Lib.hid (by have := hall.out; rwa [List.take_of_length_le (by omega)] at this)
        go_wp2
        go_ret
        exact ⟨ret_bool (by rw [hb.out, hall'.out]), rfl⟩

theorem take_ne {a b : List Bs} {k : Nat} (hka : k < a.length) (hkb : k < b.length) (h : ¬ a[k] = b[k]) : (a == b) = false := by
  rw [beq_eq_false_iff_ne]
  intro e
  subst e
  exact h rfl
theorem take_step {a b : List Bs} {k : Nat} (hka : k < a.length) (hkb : k < b.length) (h : a.take k = b.take k) (he : a[k] = b[k]) : a.take (k + 1) = b.take (k + 1) := by
  rw [List.take_succ_eq_append_getElem hka, List.take_succ_eq_append_getElem hkb, h, he]

set_option maxHeartbeats 1000000 in
set_option maxRecDepth 100000 in
theorem same_any (A1 A2 : Option Addr) (a b : List Bs) (c1 c2 : Nat) (w : World) (h1 : StrsV w A1 a) (h2 : StrsV w A2 b) :
    Calls Tryz.prog 23 #[.slice A1 a.length c1, .slice A2 b.length c2] w fun e w' => e = .returned (.bool (a == b)) ∧ Below w.heap.size w w' := by
  have hm1 := h1.1
  have hm2 := h2.1
  by_cases hlen : a.length = b.length
  · have hbeq : ((a.length : Int) != (b.length : Int)) = false := by rw [bne_eq_false_iff_eq]; omega
    have HL := Lib.hid hlen
    have hle : a.length ≤ b.length := by omega
    clear hlen
    go_enter Tryz.func23, Tryz.ntmps23
    go_wp2
    go_loopw [5, 13] (fun _ i wr => ∃ k : Nat, i = .int .i64 k ∧ k ≤ a.length ∧ Below w.heap.size w wr ∧ Hid (a.take k = b.take k)) (fun _ i _ => a.length - (intOf i).toNat)
    case atStart => exact ⟨0, rfl, by omega, Below.refl _ _, Lib.hid (by simp)⟩
    case round =>
      obtain ⟨k, rfl, hk, hb, hall⟩ := hrel
      by_cases hlt : k < a.length
      · have hkb : k < b.length := by omega
        obtain ⟨b1, o1, rfl, hc1⟩ := (h1.below hb).at_ k hlt
        obtain ⟨b2, o2, rfl, hc2⟩ := (h2.below hb).at_ k hkb
        have HST := Lib.hid (@take_step a b k hlt hkb)
        have HNE := Lib.hid (@take_ne a b k hlt hkb)
        by_cases he : a[k] = b[k]
        · have HE := Lib.hid he
          rw [he] at hc1
          clear he
          go_wp2
          go_quiet (fail)
          go_wp2
          go_roundw
          case rel => exact ⟨k + 1, by go_num, by omega, below_drewN hb _, Lib.hid (HST.out hall.out HE.out)⟩
          case measure => simp [intOf]; omega
        · have hne : (a[k] == b[k]) = false := by rw [beq_eq_false_iff_ne]; exact he
          have HE := Lib.hid he
          clear he
          go_wp2
          go_quiet (fail)
          go_wp2
          go_ret
          exact ⟨ret_bool (HNE.out HE.out).symm, below_drewN hb _⟩
      · have heq : Hid ((a == b) = true) := Lib.hid (by
          have := hall.out
          rw [List.take_of_length_le (by omega), List.take_of_length_le (by have := HL.out; omega)] at this
          rw [beq_iff_eq]; exact this)
        go_wp2
        go_ret
        exact ⟨ret_bool heq.out.symm, hb⟩
  · have hne : ((a.length : Int) != (b.length : Int)) = true := by rw [bne_iff_ne]; omega
    have hr : Hid ((a == b) = false) := Lib.hid (by rw [beq_eq_false_iff_ne]; exact fun e => hlen (by rw [e]))
    clear hlen
    go_enter Tryz.func23, Tryz.ntmps23
    go_wp2
    go_ret
    exact ⟨ret_bool hr.out.symm, Below.refl _ _⟩

def livesL : List Bs := [[47, 98], [47, 97, 47, 99], [47, 97]]
theorem lives_paths : ∀ s ∈ livesL, isPath s = true := by decide
theorem lives_clean : cleanL livesL = ([[47, 97], [47, 98]], 0) := by
  have h : (sortC livesL).filter (top (sortC livesL)) = [[47, 97], [47, 98]] := by
    refine (cleaned_filter livesL).unique ⟨by decide, fun s => ?_⟩
    constructor
    · intro hs
      rcases List.mem_cons.1 hs with rfl | hs
      · decide
      · obtain rfl := List.mem_singleton.1 hs
        decide
    · rintro ⟨hs, ht⟩
      simp only [livesL, List.mem_cons, List.not_mem_nil, or_false] at hs
      rcases hs with rfl | rfl | rfl
      · decide
      · revert ht; decide
      · decide
  unfold cleanL
  rw [if_pos ((all_path livesL).2 lives_paths), h]
  rfl

set_option maxHeartbeats 4000000 in
set_option maxRecDepth 100000 in
theorem lives_any (w : World) (hE : Env w) :
    Calls Tryz.prog 14 #[] w fun e w' => e = .returned (.bool true) ∧ Below w.heap.size w w' := by
  have hb0 := bal w (.cells #[encStr [47, 98], encStr [47, 97, 47, 99], encStr [47, 97]] 9)
  have hS0 : StrsV (w.alloc (.cells #[encStr [47, 98], encStr [47, 97, 47, 99], encStr [47, 97]] 9)) (some ⟨w.heap.size, 0, none⟩) livesL := StrsV.made (by decide) (halloc _ _)
  have hcl := clean_any _ livesL 3 (by decide) (by decide) _ (hE.below hb0) hS0
  have HCL := Lib.hid hcl
  clear hcl hS0
  have hHas := fun A c W hE hS => has_any A [[47, 97], [47, 98]] c ⟨#[47, 97, 47, 120]⟩ (by decide) (by decide) W hE hS
  have e1 : has [[47, 97], [47, 98]] (⟨#[47, 97, 47, 120]⟩ : ByteArray).data.toList = true := by decide
  have hLeads := fun W hE => leads_any none [] 0 ⟨#[47]⟩ (by decide) (by decide) W hE (StrsV.nil W none)
  have e2 : leads [] (⟨#[47]⟩ : ByteArray).data.toList = true := by decide
  rw [e1] at hHas
  rw [e2] at hLeads
  have HHAS := Lib.hid hHas
  have HLEADS := Lib.hid hLeads
  clear hHas hLeads e1 e2
  go_enter Tryz.func14, Tryz.ntmps14
  go_wp2_with fail
  refine HCL.out.mono ?_
  rintro e w1 ⟨A, c, rfl, hS, hb1⟩
  rw [lives_clean] at hS
  have HS := Lib.hid hS
  obtain ⟨b, o, rfl, hc⟩ := hS.2 (by decide)
  have hc0 : w1.cell? ⟨b, o, none⟩ = some (.string ⟨#[47, 97]⟩) := hc 0 (by decide)
  have hc1 : w1.cell? ⟨b, o + 1, none⟩ = some (.string ⟨#[47, 98]⟩) := hc 1 (by decide)
  clear hS hc
  simp only [lives_clean]
  have hE1 := hE.below (bt hb0 hb1)
  go_wp2_with fail
  refine (HHAS.out _ _ _ hE1 HS.out).mono ?_
  rintro e w2 ⟨rfl, hb2⟩
  go_wp2_with fail
  refine (HLEADS.out _ (hE1.below hb2)).mono ?_
  rintro e w3 ⟨rfl, hb3⟩
  go_wp2
  go_ret
  exact ⟨rfl, bt hb0 (bt hb1 (bt hb2 hb3))⟩
end Go.Proofs.YtfofjblkondnbaaGreatDoor.Ch

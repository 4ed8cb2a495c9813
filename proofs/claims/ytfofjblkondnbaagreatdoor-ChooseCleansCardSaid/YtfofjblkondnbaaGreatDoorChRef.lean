/- The walks of the document's answer for names and paths. -/
import Derived.Test.YtfofjblkondnbaaGreatDoorChName
import Derived.Test.YtfofjblkondnbaaGreatDoorChRefPlain
namespace Go.Proofs.YtfofjblkondnbaaGreatDoor.Ch
open Go.RowKit Go.Sort

theorem nameCh_iff (c : UInt8) : nameCh c = true ↔ (97 ≤ c.toNat ∧ c.toNat ≤ 122) ∨ (65 ≤ c.toNat ∧ c.toNat ≤ 90) ∨ (48 ≤ c.toNat ∧ c.toNat ≤ 57) ∨ c.toNat = 46 ∨ c.toNat = 95 ∨ c.toNat = 45 := by
  have h1 : c = 46 ↔ c.toNat = 46 := ⟨fun e => by rw [e]; rfl, fun e => UInt8.toNat.inj (by rw [e]; rfl)⟩
  have h2 : c = 95 ↔ c.toNat = 95 := ⟨fun e => by rw [e]; rfl, fun e => UInt8.toNat.inj (by rw [e]; rfl)⟩
  have h3 : c = 45 ↔ c.toNat = 45 := ⟨fun e => by rw [e]; rfl, fun e => UInt8.toNat.inj (by rw [e]; rfl)⟩
  simp only [nameCh, Bool.or_eq_true, Bool.and_eq_true, decide_eq_true_eq, beq_iff_eq, h1, h2, h3]
  omega

set_option maxHeartbeats 1000000 in
set_option maxRecDepth 100000 in
theorem refName_bad (s : ByteArray) (hs : s.size ≤ 9223372036854775807) (h : s.size < 1 ∨ 12 < s.size ∨ s.toList = [46] ∨ s.toList = [46, 46]) (w : World) :
    Calls Tryz.prog 121 #[.string s] w fun e w' => e = .returned (.bool (nameOk s.data.toList)) ∧ w = w' := by
  rw [nameOk_bad h]
  have H := Lib.hid h
  clear h
  go_enter Tryz.func121, Tryz.ntmps121
  go_wp2
  · go_ret; exact ⟨rfl, rfl⟩
  · go_ret; exact ⟨rfl, rfl⟩
  · go_ret; exact ⟨rfl, rfl⟩
  · exfalso
    have h := H.out
    have h' : ((s.toList.isEmpty = false ∧ (s.size : Int) ≤ 12) ∧ (s.toList == [46]) = false) ∧ (s.toList == [46, 46]) = false := by assumption
    obtain ⟨⟨⟨h1, h2⟩, h3⟩, h4⟩ := h'
    rcases h with h | h | h | h
    · have : s.toList = [] := by rw [ByteArray.toList_eq]; exact List.length_eq_zero_iff.1 (by rw [Array.length_toList]; show s.size = 0; omega)
      rw [this] at h1; cases h1
    · omega
    · rw [h] at h3; revert h3; decide
    · rw [h] at h4; revert h4; decide
  · go_ret; exact ⟨rfl, rfl⟩

set_option maxHeartbeats 1000000 in
set_option maxRecDepth 100000 in
theorem refName_good (s : ByteArray) (h1 : 1 ≤ s.size) (h2 : s.size ≤ 12) (h3 : (s.toList == [46]) = false) (h4 : (s.toList == [46, 46]) = false) (w : World) :
    Calls Tryz.prog 121 #[.string s] w fun e w' => e = .returned (.bool (nameOk s.data.toList)) ∧ w = w' := by
  rw [nameOk_good h1 h2 h3 h4]
  obtain ⟨B, hB⟩ : ∃ B, B = s.data.toList.all nameCh := ⟨_, rfl⟩
  rw [← hB]
  have HB := Lib.hid hB
  clear hB
  have h3' : ¬ s.toList = [46] := by simpa using h3
  have h0 : s.toList.isEmpty = false := by
    rw [ByteArray.toList_eq]
    cases h : s.data.toList with
    | nil =>
      have h' : s.data.toList.length = 0 := by rw [h]; rfl
      rw [Array.length_toList] at h'
      have : s.size = 0 := h'
      omega
    | cons => rfl
  have h0' : ¬ s.toList = [] := by intro e; rw [e] at h0; simp at h0
  go_enter Tryz.func121, Tryz.ntmps121
  go_wp2
  go_loop [3, 4, 5, 6, 7] (fun i _ _ _ _ => ∃ k : Nat, i = .int .i64 k ∧ k ≤ s.size ∧ Hid ((s.data.toList.take k).all nameCh = true)) (fun i _ _ _ _ => s.size - (intOf i).toNat)
  case atStart => exact ⟨0, rfl, Nat.zero_le _, Lib.hid (by simp)⟩
  case round =>
    obtain ⟨k, rfl, hk, hall⟩ := hrel
    by_cases hlt : k < s.size
    · have HT := Lib.hid (all_take_succ s k hlt)
      have HF := Lib.hid (all_false s k hlt)
      have HN := Lib.hid (nameCh_iff s[k])
      have hgo : Hid (nameCh s[k] = true → (s.data.toList.take (k + 1)).all nameCh = true) := Lib.hid fun h => by rw [HT.out, hall.out, h]; rfl
      by_cases hn : nameCh s[k] = true
      · have hd := HN.out.1 hn
        have HGO := Lib.hid (hgo.out hn)
        clear hn
        rcases hd with ⟨d1, d2⟩ | ⟨d1, d2⟩ | ⟨d1, d2⟩ | d | d | d
        all_goals
          go_wp2
          go_round
          case rel => exact ⟨k + 1, by go_num, by omega, HGO⟩
          case measure => simp [intOf]; omega
      · have hd := mt HN.out.2 hn
        simp only [not_or, not_and] at hd
        obtain ⟨d1, d2, d3, d4, d5, d6⟩ := hd
        have HN0 := Lib.hid (HF.out (by simpa using hn))
        clear hn
        have e1 : ((s[k].toNat : Int) != 46) = true := by rw [bne_iff_ne]; omega
        have e1b : ((s[k].toNat : Int) == 46) = false := by rw [beq_eq_false_iff_ne]; omega
        have e2 : ((s[k].toNat : Int) != 95) = true := by rw [bne_iff_ne]; omega
        have e2b : ((s[k].toNat : Int) == 95) = false := by rw [beq_eq_false_iff_ne]; omega
        have e3 : ((s[k].toNat : Int) != 45) = true := by rw [bne_iff_ne]; omega
        have e3b : ((s[k].toNat : Int) == 45) = false := by rw [beq_eq_false_iff_ne]; omega
        rcases Nat.lt_or_ge s[k].toNat 48 with l1 | l1
        · go_wp2
          go_ret
          exact ⟨ret_bool (by rw [HB.out, HN0.out]), rfl⟩
        · have l2 : 57 < s[k].toNat := by omega
          have l2b : decide ((s[k].toNat : Int) ≤ 57) = false := decide_eq_false (by omega)
          rcases Nat.lt_or_ge s[k].toNat 65 with l3 | l3
          · go_wp2
            go_ret
            exact ⟨ret_bool (by rw [HB.out, HN0.out]), rfl⟩
          · have l4 : 90 < s[k].toNat := by omega
            have l4b : decide ((s[k].toNat : Int) ≤ 90) = false := decide_eq_false (by omega)
            rcases Nat.lt_or_ge s[k].toNat 97 with l5 | l5
            · go_wp2
              go_ret
              exact ⟨ret_bool (by rw [HB.out, HN0.out]), rfl⟩
            · have l6 : 122 < s[k].toNat := by omega
              have l6b : decide ((s[k].toNat : Int) ≤ 122) = false := decide_eq_false (by omega)
              go_wp2
              go_ret
              exact ⟨ret_bool (by rw [HB.out, HN0.out]), rfl⟩
    · have hall' : Hid (s.data.toList.all nameCh = true) := Lib.hid (by have := hall.out; rwa [List.take_of_length_le (by simp; omega)] at this)
      go_wp2
      go_ret
      exact ⟨ret_bool (by rw [HB.out, hall'.out]), rfl⟩

theorem refName_any (s : ByteArray) (hs : s.size ≤ 9223372036854775807) (w : World) :
    Calls Tryz.prog 121 #[.string s] w fun e w' => e = .returned (.bool (nameOk s.data.toList)) ∧ w = w' := by
  by_cases h : s.size < 1 ∨ 12 < s.size ∨ s.toList = [46] ∨ s.toList = [46, 46]
  · exact refName_bad s hs h w
  · simp only [not_or, Nat.not_lt] at h
    obtain ⟨h1, h2, h3, h4⟩ := h
    exact refName_good s h1 h2 (by simpa using h3) (by simpa using h4) w
end Go.Proofs.YtfofjblkondnbaaGreatDoor.Ch

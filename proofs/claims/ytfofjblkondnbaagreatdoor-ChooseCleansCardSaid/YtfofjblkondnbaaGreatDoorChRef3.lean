/- The walk of the document's answer for a part of a path. -/
import Derived.Test.YtfofjblkondnbaaGreatDoorChRef2
namespace Go.Proofs.YtfofjblkondnbaaGreatDoor.Ch
open Go.RowKit Go.Sort

theorem cutC_at (c : UInt8) : ∀ (s : Bs) (k : Nat) (h : k < s.length), c ∉ s.take k → s[k] = c → cutC c s = (s.take k, some (s.drop (k + 1)))
  | [], k, h, _, _ => by simp at h
  | x :: xs, 0, _, _, e => by
    have : x = c := e
    simp [cutC, this]
  | x :: xs, k + 1, h, hf, e => by
    have hx : ¬ x = c := fun e => hf (by simp [e])
    have ih := cutC_at c xs k (by simpa using h) (fun hm => hf (by simp [hm])) e
    simp [cutC, hx, ih]

theorem tilde_iff (c : UInt8) : c = 126 ↔ c.toNat = 126 := ⟨fun e => by rw [e]; rfl, fun e => UInt8.toNat.inj (by rw [e]; rfl)⟩
theorem dot_iff (c : UInt8) : c = 46 ↔ c.toNat = 46 := ⟨fun e => by rw [e]; rfl, fun e => UInt8.toNat.inj (by rw [e]; rfl)⟩
theorem slash_iff (c : UInt8) : c = 47 ↔ c.toNat = 47 := ⟨fun e => by rw [e]; rfl, fun e => UInt8.toNat.inj (by rw [e]; rfl)⟩

theorem toList_get (s : ByteArray) (k : Nat) (h : k < s.size) : ∃ h' : k < s.data.toList.length, s.data.toList[k] = s[k] := ⟨by simpa using h, by simp; rfl⟩

theorem extract_take (s : ByteArray) (k : Nat) : (s.extract 0 k).data.toList = s.data.toList.take k := Lib.extract_from_zero s k

theorem tagR_none {t : Bs} (h : numAt t = none) : tagR t = false := by unfold tagR; simp only [h]
theorem tagR_end {t : Bs} {n : Nat} (h : numAt t = some n) (hd : t.drop n = []) : tagR t = false := by unfold tagR; simp only [h, hd]
theorem tagR_nodot {t : Bs} {n : Nat} {c : UInt8} {u : Bs} (h : numAt t = some n) (hd : t.drop n = c :: u) (hc : c ≠ 46) : tagR t = false := by
  unfold tagR; simp only [h, hd]; simp [hc]
theorem tagR_dot {t : Bs} {n : Nat} {u : Bs} (h : numAt t = some n) (hd : t.drop n = 46 :: u) : tagR t = (match numAt u with | none => false | some m => m == u.length) := by
  unfold tagR; simp only [h, hd]; simp
  cases numAt u <;> rfl
theorem numR_full (l : Bs) (a : Nat) (h : a ≤ l.length) : (match numAt (l.drop a) with | none => false | some m => m == (l.drop a).length) = decide (numR l a = (l.length : Int)) := by
  unfold numR
  cases hq : numAt (l.drop a) with
  | none =>
    dsimp only
    rw [eq_comm, decide_eq_false_iff_not]
    omega
  | some m =>
    dsimp only
    rw [Bool.eq_iff_iff, beq_iff_eq, decide_eq_true_eq, List.length_drop]
    omega

set_option maxHeartbeats 2000000 in
set_option maxRecDepth 100000 in
/-- What stands behind the tilde. -/
theorem refPart_tail (s : ByteArray) (hs : s.size ≤ 4611686018427387900) (h0 : (s.toList == [108, 111, 115, 116, 43, 102, 111, 117, 110, 100]) = false) (hn : nameOk s.data.toList = false) (w : World) :
    Calls Tryz.prog 65 #[.string s] w fun e w' => e = .returned (.bool (partOk s.data.toList)) ∧ w = w' := by
  obtain ⟨B, hB⟩ : ∃ B, B = partOk s.data.toList := ⟨_, rfl⟩
  rw [← hB]
  have hB2 : B = match (cutC 126 s.data.toList).2 with
      | none => false
      | some t => nameOk (cutC 126 s.data.toList).1 && tagR t := by
    have : (s.data.toList == lostName) = false := by rw [← ByteArray.toList_eq]; exact h0
    rw [hB, partR_eq, hn, this]; rfl
  have HB := Lib.hid hB2
  have hName := refName_any s (by omega) w
  rw [hn] at hName
  have HNAME := Lib.hid hName
  clear hB hB2 hn hName
  go_enter Tryz.func65, Tryz.ntmps65
  go_wp2_with fail
  refine HNAME.out.mono ?_
  rintro e w' ⟨rfl, rfl⟩
  go_wp2
  go_loop [3] (fun i => ∃ k : Nat, i = .int .i64 k ∧ k ≤ s.size ∧ Hid ((126 : UInt8) ∉ s.data.toList.take k)) (fun i => s.size - (intOf i).toNat)
  case atStart => exact ⟨0, rfl, Nat.zero_le _, Lib.hid (by simp)⟩
  case round =>
    obtain ⟨k, rfl, hk, hfree⟩ := hrel
    by_cases hlt : k < s.size
    · obtain ⟨hkl, hget⟩ := toList_get s k hlt
      by_cases h126 : s[k].toNat = 126
      · have hcut := cutC_at 126 s.data.toList k hkl hfree.out (by rw [hget, tilde_iff]; exact h126)
        have hb1 : ((s[k].toNat : Int) != 126) = false := by rw [bne_eq_false_iff_eq]; omega
        have hb2 : ((s[k].toNat : Int) == 126) = true := by rw [beq_iff_eq]; omega
        have hBk : Hid (B = (nameOk (s.data.toList.take k) && tagR (s.data.toList.drop (k + 1)))) := Lib.hid (by rw [HB.out, hcut])
        have hNum := Lib.hid (number_any s (k + 1) (by omega) (by omega) w)
        have hsub := refName_any (s.extract 0 k) (by simp; omega) w
        rw [extract_take] at hsub
        clear hcut hget h126
        cases hnm : nameOk (s.data.toList.take k) with
        | false =>
          rw [hnm] at hsub
          have HSUB := Lib.hid hsub
          have hf : Hid (B = false) := Lib.hid (by rw [hBk.out, hnm]; rfl)
          clear hsub hnm
          go_wp2_with fail
          refine hNum.out.mono ?_
          rintro e w' ⟨rfl, rfl⟩
          go_wp2_with fail
          refine HSUB.out.mono ?_
          rintro e w' ⟨rfl, rfl⟩
          go_wp2
          go_ret
          exact ⟨ret_bool hf.out.symm, rfl⟩
        | true =>
          rw [hnm] at hsub
          have HSUB := Lib.hid hsub
          have hBt : Hid (B = tagR (s.data.toList.drop (k + 1))) := Lib.hid (by rw [hBk.out, hnm]; rfl)
          clear hsub hnm
          cases hna : numAt (s.data.toList.drop (k + 1)) with
          | none =>
            have hR : numR s.data.toList (k + 1) = -1 := by unfold numR; rw [hna]
            have hf : Hid (B = false) := Lib.hid (by rw [hBt.out, tagR_none hna])
            have HNU := Lib.hid (by have := hNum.out; rw [hR] at this; exact this)
            clear hna hR hNum
            go_wp2_with fail
            refine HNU.out.mono ?_
            rintro e w' ⟨rfl, rfl⟩
            go_wp2_with fail
            refine HSUB.out.mono ?_
            rintro e w' ⟨rfl, rfl⟩
            go_wp2
            go_ret
            exact ⟨ret_bool hf.out.symm, rfl⟩
          | some n =>
            have hR : numR s.data.toList (k + 1) = ((k + 1 + n : Nat) : Int) := by unfold numR; rw [hna]
            have HNU := Lib.hid (by have := hNum.out; rw [hR] at this; exact this)
            have HNA := Lib.hid hna
            obtain ⟨a, ha⟩ : ∃ a : Nat, a = k + 1 + n := ⟨_, rfl⟩
            have hdd : Hid ((s.data.toList.drop (k + 1)).drop n = s.data.toList.drop a) := Lib.hid (by rw [List.drop_drop, ha])
            rw [← ha] at HNU
            have hka : 0 ≤ a := Nat.zero_le _
            clear hna hR hNum ha
            by_cases hal : a < s.size
            · obtain ⟨haL, hgetA⟩ := toList_get s a hal
              have hdrop : s.data.toList.drop a = s.data.toList[a] :: s.data.toList.drop (a + 1) := List.drop_eq_getElem_cons haL
              rw [hgetA] at hdrop
              by_cases hdot : s[a].toNat = 46
              · have hd46 : s[a] = 46 := (dot_iff _).2 hdot
                have hb3 : ((s[a].toNat : Int) != 46) = false := by rw [bne_eq_false_iff_eq]; omega
                have hb4 : ((s[a].toNat : Int) == 46) = true := by rw [beq_iff_eq]; omega
                have hNum2 := number_any s (a + 1) (by omega) (by omega) w
                have hsz : s.data.toList.length = s.size := by simp
                have hBn : Hid (B = decide (numR s.data.toList (a + 1) = (s.size : Int))) := Lib.hid (by
                  rw [hBt.out, tagR_dot HNA.out (by rw [hdd.out, hdrop, hd46]), numR_full _ _ (by omega), hsz])
                obtain ⟨r, hr⟩ : ∃ r, r = numR s.data.toList (a + 1) := ⟨_, rfl⟩
                rw [← hr] at hNum2 hBn
                have HN2 := Lib.hid hNum2
                clear hNum2 hd46 hdrop hr hgetA hsz
                go_wp2_with fail
                refine HNU.out.mono ?_
                rintro e w' ⟨rfl, rfl⟩
                go_wp2_with fail
                refine HSUB.out.mono ?_
                rintro e w' ⟨rfl, rfl⟩
                go_wp2_with fail
                refine HN2.out.mono ?_
                rintro e w' ⟨rfl, rfl⟩
                go_wp2
                go_ret
                exact ⟨ret_bool (by rw [hBn.out, Bool.eq_iff_iff]; simp), rfl⟩
              · have hb3 : ((s[a].toNat : Int) != 46) = true := by rw [bne_iff_ne]; omega
                have hb4 : ((s[a].toNat : Int) == 46) = false := by rw [beq_eq_false_iff_ne]; omega
                have hf : Hid (B = false) := Lib.hid (by
                  rw [hBt.out, tagR_nodot HNA.out (by rw [hdd.out, hdrop]) (fun e => hdot ((dot_iff _).1 e))])
                clear hdrop hgetA hdot
                go_wp2_with fail
                refine HNU.out.mono ?_
                rintro e w' ⟨rfl, rfl⟩
                go_wp2_with fail
                refine HSUB.out.mono ?_
                rintro e w' ⟨rfl, rfl⟩
                go_wp2
                go_ret
                exact ⟨ret_bool hf.out.symm, rfl⟩
            · have hf : Hid (B = false) := Lib.hid (by
                rw [hBt.out, tagR_end HNA.out (by rw [hdd.out, List.drop_eq_nil_of_le (by simp; omega)])])
              go_wp2_with fail
              refine HNU.out.mono ?_
              rintro e w' ⟨rfl, rfl⟩
              go_wp2_with fail
              refine HSUB.out.mono ?_
              rintro e w' ⟨rfl, rfl⟩
              go_wp2
              go_ret
              exact ⟨ret_bool hf.out.symm, rfl⟩
      · have hb1 : ((s[k].toNat : Int) != 126) = true := by rw [bne_iff_ne]; omega
        have hb2 : ((s[k].toNat : Int) == 126) = false := by rw [beq_eq_false_iff_ne]; omega
        have hnext : Hid ((126 : UInt8) ∉ s.data.toList.take (k + 1)) := Lib.hid (by
          rw [List.take_succ_eq_append_getElem hkl, List.mem_append, not_or]
          refine ⟨hfree.out, fun h => h126 ?_⟩
          rw [List.mem_singleton] at h
          rw [← tilde_iff, ← hget, ← h])
        clear hget
        go_wp2
        go_round
        case rel => exact ⟨k + 1, by go_num, by omega, hnext⟩
        case measure => simp [intOf]; omega
    · have hf : Hid (B = false) := Lib.hid (by
        have h := hfree.out
        rw [List.take_of_length_le (by simp; omega)] at h
        rw [HB.out, cutC_of_free 126 _ h])
      go_wp2
      go_ret
      exact ⟨ret_bool hf.out.symm, rfl⟩

set_option maxHeartbeats 1000000 in
set_option maxRecDepth 100000 in
theorem refPart_any (s : ByteArray) (hs : s.size ≤ 4611686018427387900) (w : World) :
    Calls Tryz.prog 65 #[.string s] w fun e w' => e = .returned (.bool (partOk s.data.toList)) ∧ w = w' := by
  by_cases h0 : s.data.toList = lostName
  · have hp : Hid (partOk s.data.toList = true) := Lib.hid (by simp [partOk, h0])
    have h0' : s.toList = [108, 111, 115, 116, 43, 102, 111, 117, 110, 100] := by rw [ByteArray.toList_eq]; exact h0
    clear h0
    go_enter Tryz.func65, Tryz.ntmps65
    go_wp2
    go_ret
    exact ⟨ret_bool hp.out.symm, rfl⟩
  · have h0' : (s.toList == [108, 111, 115, 116, 43, 102, 111, 117, 110, 100]) = false := by
      rw [ByteArray.toList_eq, beq_eq_false_iff_ne]; exact h0
    cases hn : nameOk s.data.toList with
    | false => exact refPart_tail s hs h0' hn w
    | true =>
      have hp : Hid (partOk s.data.toList = true) := Lib.hid (by rw [partR_eq, hn]; simp)
      have hName := refName_any s (by omega) w
      rw [hn] at hName
      have HN := Lib.hid hName
      clear hName hn h0
      go_enter Tryz.func65, Tryz.ntmps65
      go_wp2_with fail
      refine HN.out.mono ?_
      rintro e w' ⟨rfl, rfl⟩
      go_wp2
      go_ret
      exact ⟨ret_bool hp.out.symm, rfl⟩
end Go.Proofs.YtfofjblkondnbaaGreatDoor.Ch

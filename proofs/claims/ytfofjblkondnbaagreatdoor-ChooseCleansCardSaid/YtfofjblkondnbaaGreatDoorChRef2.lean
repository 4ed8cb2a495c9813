/- The walks of the document's answer for paths. -/
import Derived.Test.YtfofjblkondnbaaGreatDoorChRef
import Derived.Test.YtfofjblkondnbaaGreatDoorChRefPlain
import Derived.Test.YtfofjblkondnbaaGreatDoorChStr
import Derived.Test.YtfofjblkondnbaaGreatDoorChClean
namespace Go.Proofs.YtfofjblkondnbaaGreatDoor.Ch
open Go.RowKit Go.Sort

/-- the number's answer -/
def numR (s : Bs) (at_ : Nat) : Int := match numAt (s.drop at_) with
  | none => -1
  | some n => ((at_ + n : Nat) : Int)

theorem byte_drop (s : ByteArray) (p j : Nat) (h : p + j < s.size) : ∃ h' : j < (s.data.toList.drop p).length, (s.data.toList.drop p)[j] = s[p + j] := by
  refine ⟨by simp; show j < s.size - p; omega, ?_⟩
  simp
  rfl
theorem isDig_iff' (c : UInt8) : isDig c = true ↔ 48 ≤ c.toNat ∧ c.toNat ≤ 57 := by simp [isDig]

set_option maxHeartbeats 2000000 in
set_option maxRecDepth 100000 in
theorem number_any (s : ByteArray) (p : Nat) (hs : s.size ≤ 4611686018427387904) (hp : p ≤ s.size) (w : World) :
    Calls Tryz.prog 122 #[.string s, .int .i64 p] w fun e w' => e = .returned (.int .i64 (numR s.data.toList p)) ∧ w = w' := by
  obtain ⟨R, hR⟩ : ∃ R, R = numR s.data.toList p := ⟨_, rfl⟩
  rw [← hR]
  have HR := Lib.hid hR
  clear hR
  have hdl : (s.data.toList.drop p).length = s.size - p := by simp
  obtain ⟨t, ht⟩ : ∃ t, t = s.data.toList.drop p := ⟨_, rfl⟩
  rw [← ht] at hdl
  have HT := Lib.hid ht
  clear ht
  have hds : (t.takeWhile isDig).length ≤ t.length := tw_le t
  obtain ⟨D, hD⟩ : ∃ D, D = (t.takeWhile isDig).length := ⟨_, rfl⟩
  rw [← hD] at hds
  have HD := Lib.hid hD
  clear hD
  go_enter Tryz.func122, Tryz.ntmps122
  go_wp2
  go_loop [5, 6] (fun n i => ∃ j v : Nat, i = .int .i64 ((p + j : Nat) : Int) ∧ n = .int .i64 (v : Int) ∧ j ≤ D ∧ v ≤ 4294967295 ∧ Hid (v = valD ((t.takeWhile isDig).take j)) ∧ (2 ≤ j → Hid (t.head? ≠ some 48))) (fun _ i => s.size - (intOf i).toNat)
  case atStart => exact ⟨0, 0, by simp, rfl, by omega, by omega, Lib.hid (by simp [valD]), by omega⟩
  case round =>
    obtain ⟨j, v, rfl, rfl, hj, hv, hval, hzero⟩ := hrel
    by_cases hlt : j < D
    · have hpj : p + j < s.size := by omega
      obtain ⟨hjt, hbyte⟩ := byte_drop s p j hpj
      have hget := Lib.hid (tw_get t j (by omega) (by rw [← HD.out]; exact hlt))
      have hc : 48 ≤ s[p + j].toNat ∧ s[p + j].toNat ≤ 57 := (isDig_iff' _).1 (by
        rw [← hbyte]
        have := hget.out.1
        simp only [HT.out] at this
        exact this)
      have hv2 : Hid (10 * v + (s[p + j].toNat - 48) = valD ((t.takeWhile isDig).take (j + 1))) := Lib.hid (by
        have h2 := hget.out.2
        have hjl : j < (t.takeWhile isDig).length := by rw [← HD.out]; exact hlt
        rw [List.take_succ_eq_append_getElem hjl, valD_snoc, ← hval.out]
        rw [List.getElem?_eq_getElem hjl] at h2
        rw [Option.some.inj h2]
        simp only [HT.out]
        rw [hbyte])
      obtain ⟨c1, c2⟩ := hc
      clear hbyte
      by_cases hbig : 4294967295 < 10 * v + (s[p + j].toNat - 48)
      · have hRn : Hid (R = -1) := Lib.hid (by rw [HR.out]; unfold numR; rw [← HT.out, numAt_big (j + 1) (by rw [← hv2.out]; exact hbig)])
        go_wp2
        go_ret
        exact ⟨ret_int hRn.out.symm, rfl⟩
      · have hnot : ¬ (4294967295 < 10 * (v : Int) + ((s[p + j].toNat : Int) - 48)) := by omega
        have hgo : (2 ≤ j + 1 → Hid (t.head? ≠ some 48)) → ∃ j' v' : Nat, (Value.int .i64 ((p : Int) + (j : Int) + 1)) = .int .i64 ((p + j' : Nat) : Int) ∧ Value.int .i64 (10 * (v : Int) + ((s[p + j].toNat : Int) - 48)) = .int .i64 (v' : Int) ∧ j' ≤ D ∧ v' ≤ 4294967295 ∧ Hid (v' = valD ((t.takeWhile isDig).take j')) ∧ (2 ≤ j' → Hid (t.head? ≠ some 48)) := fun hz =>
          ⟨j + 1, 10 * v + (s[p + j].toNat - 48), by first | rfl | (congr 1; omega), by first | rfl | (congr 1; omega), by omega, by omega, Lib.hid hv2.out, hz⟩
        have HGO := Lib.hid hgo
        clear hgo
        by_cases hj1 : 1 ≤ j
        · have hp0 : p < s.size := by omega
          obtain ⟨h0t, hb0⟩ := byte_drop s p 0 (by omega)
          have hhead : Hid (t.head? = some s[p]) := Lib.hid (by
            have h1 : 0 < t.length := by omega
            rw [List.head?_eq_getElem?, List.getElem?_eq_getElem h1]
            congr 1
            simp only [HT.out]
            exact hb0)
          clear hb0
          by_cases hz : s[p].toNat = 48
          · have hRn : Hid (R = -1) := Lib.hid (by
              rw [HR.out]; unfold numR; rw [← HT.out, numAt_zero (by rw [← HD.out]; omega) (by rw [hhead.out]; congr 1; exact UInt8.toNat.inj (by rw [hz]; rfl))])
            have hzb : ((s[p].toNat : Int) == 48) = true := by rw [beq_iff_eq]; omega
            go_wp2
            go_ret
            exact ⟨ret_int hRn.out.symm, rfl⟩
          · have hzb : ((s[p].toNat : Int) == 48) = false := by rw [beq_eq_false_iff_ne]; omega
            have hne : Hid (t.head? ≠ some 48) := Lib.hid (by
              rw [hhead.out]
              intro e
              apply hz
              rw [Option.some.inj e]; rfl)
            have HG2 := HGO.out (fun _ => hne)
            go_wp2
            go_round
            case rel => exact HG2
            case measure => simp [intOf]; omega
        · have HG2 := HGO.out (fun h => by omega)
          go_wp2
          go_round
          case rel => exact HG2
          case measure => simp [intOf]; omega
    · obtain rfl : j = D := by omega
      have hfin : ∀ hj0 : 1 ≤ j, Hid (R = ((p + j : Nat) : Int)) := fun hj0 => Lib.hid (by
        have hne : t.takeWhile isDig ≠ [] := fun e => by have := HD.out; rw [e] at this; simp at this; omega
        have h1 : (t.takeWhile isDig).length = 1 ∨ t.head? ≠ some 48 := by
          rcases Nat.lt_or_ge j 2 with h | h
          · exact .inl (by rw [← HD.out]; omega)
          · exact .inr (hzero h).out
        have h2 : valD (t.takeWhile isDig) ≤ 4294967295 := by
          have := hval.out
          rw [List.take_of_length_le (by rw [← HD.out]; omega)] at this
          omega
        rw [HR.out]; unfold numR; rw [← HT.out, numAt_some hne h1 h2, ← HD.out])
      have hnone : j = 0 → Hid (R = -1) := fun e => Lib.hid (by
        have he : t.takeWhile isDig = [] := List.length_eq_zero_iff.1 (by rw [← HD.out]; exact e)
        rw [HR.out]; unfold numR; rw [← HT.out, numAt_empty he])
      have hstop : p + j < s.size → s[p + j]!.toNat < 48 ∨ 57 < s[p + j]!.toNat := fun h => by
        obtain ⟨hjt, hbyte⟩ := byte_drop s p j h
        have h1 := tw_stop t (by rw [← HD.out]; omega)
        simp only [← HD.out] at h1
        have h2 : isDig s[p + j] = false := by
          rw [← hbyte]
          simp only [HT.out] at h1
          exact h1
        rw [getElem!_pos s (p + j) h]
        simp only [isDig, Bool.and_eq_false_iff, decide_eq_false_iff_not] at h2
        omega
      have HSTOP := Lib.hid hstop
      clear hstop hzero
      by_cases hend : p + j < s.size
      · have hst := HSTOP.out hend
        rw [getElem!_pos s (p + j) hend] at hst
        by_cases hj0 : 1 ≤ j
        · have hfin := hfin hj0
          have hjb : (((p : Int) + (j : Int)) == (p : Int)) = false := by rw [beq_eq_false_iff_ne]; omega
          clear hnone
          rcases hst with hst | hst
          · go_wp2
            go_ret
            exact ⟨ret_int hfin.out.symm, rfl⟩
          · go_wp2
            go_ret
            exact ⟨ret_int hfin.out.symm, rfl⟩
        · have hj00 : j = 0 := by omega
          have HN0 := hnone hj00
          clear hnone hfin
          subst hj00
          simp only [Nat.add_zero] at *
          rcases hst with hst | hst
          · go_wp2
            go_ret
            exact ⟨ret_int HN0.out.symm, rfl⟩
          · go_wp2
            go_ret
            exact ⟨ret_int HN0.out.symm, rfl⟩
      · by_cases hj0 : 1 ≤ j
        · have hfin := hfin hj0
          have hjb : (((p : Int) + (j : Int)) == (p : Int)) = false := by rw [beq_eq_false_iff_ne]; omega
          clear hnone
          go_wp2
          go_ret
          exact ⟨ret_int hfin.out.symm, rfl⟩
        · have hj00 : j = 0 := by omega
          have HN0 := hnone hj00
          clear hnone hfin
          subst hj00
          simp only [Nat.add_zero] at *
          go_wp2
          go_ret
          exact ⟨ret_int HN0.out.symm, rfl⟩
end Go.Proofs.YtfofjblkondnbaaGreatDoor.Ch

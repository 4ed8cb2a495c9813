/- The walks of choose.Check and wardshipref14.Check. -/
import Derived.Test.YtfofjblkondnbaaGreatDoorChCheckPlain
import Derived.Test.YtfofjblkondnbaaGreatDoorChRef5
import Derived.StillTailTactics
import Derived.Sort.Walk0
namespace Go.Proofs.YtfofjblkondnbaaGreatDoor.Ch
open Go.RowKit Go.Sort

theorem bad_next {l : List Bs} {k : Nat} (h : ∀ j, j < k → badAt l j = 0) (h' : badAt l k = 0) : ∀ j, j < k + 1 → badAt l j = 0 := fun j hj => by
  rcases Nat.lt_or_eq_of_le (Nat.le_of_lt_succ hj) with hlt | rfl
  · exact h j hlt
  · exact h'

set_option maxHeartbeats 4000000 in
set_option maxRecDepth 100000 in
theorem check_any (A : Option Addr) (l : List Bs) (c : Nat) (hl : ∀ s ∈ l, s.length ≤ 9223372036854775807) (w : World) (hE : Env w) (hS : StrsV w A l) :
    Calls Tryz.prog 24 #[.slice A l.length c] w fun e w' => e = .returned (.int .i64 (checkL l)) ∧ Below w.heap.size w w' := by
  have hm := hS.1
  by_cases h8 : 8 < l.length
  · have hc := Lib.hid (checkL_long h8)
    go_enter Tryz.func24, Tryz.ntmps24
    go_wp2
    go_ret
    exact ⟨ret_int hc.out.symm, Below.refl _ _⟩
  · have HL := Lib.hid hl
    have HEND := Lib.hid (checkL_end h8)
    have HAT := Lib.hid (fun k hk h hb => checkL_at (k := k) h8 hk h hb)
    obtain ⟨R, hR⟩ : ∃ R, R = checkL l := ⟨_, rfl⟩
    rw [← hR] at HEND HAT ⊢
    clear hl hR
    go_enter Tryz.func24, Tryz.ntmps24
    go_wp2
    go_loopw [3, 14] (fun _ i wr => ∃ k : Nat, i = .int .i64 k ∧ k ≤ l.length ∧ Below w.heap.size w wr ∧ Hid (∀ j, j < k → badAt l j = 0)) (fun _ i _ => l.length - (intOf i).toNat)
    case atStart => exact ⟨0, rfl, by omega, Below.refl _ _, Lib.hid (by simp)⟩
    case round =>
      obtain ⟨k, rfl, hk, hb, hall⟩ := hrel
      by_cases hlt : k < l.length
      · obtain ⟨b, o, rfl, hc⟩ := (hS.below hb).at_ k hlt
        have hEr := hE.below hb
        have hks : (⟨l[k].toArray⟩ : ByteArray).size ≤ 9223372036854775807 := by show l[k].toArray.size ≤ _; simpa using HL.out l[k] (List.getElem_mem _)
        cases hp : pathOf l[k] with
        | none =>
          have h13 := Lib.hid (split_none ⟨l[k].toArray⟩ hks hp wr hEr)
          have hbad : Hid (R = 20) := Lib.hid (by
            have h := badAt_path hlt (by simp [isPath, hp])
            rw [HAT.out k hlt hall.out (by rw [h]; decide), h])
          clear hp
          go_wp2_with fail
          refine h13.out.mono ?_
          rintro e w4 ⟨A4, c4, rfl, hb4⟩
          go_wp2
          go_ret
          exact ⟨ret_int hbad.out.symm, bt hb hb4⟩
        | some pk =>
          have h13 := Lib.hid (split_some ⟨l[k].toArray⟩ hks pk hp wr hEr)
          have HPK : Hid (isPath l[k] = true) := Lib.hid (by simp [isPath, hp])
          clear hp
          by_cases h0 : 0 < k
          · have hk1 : k - 1 < l.length := by omega
            have i1 : IntKind.i64.wrap ((k : Int) - 1) = ((k - 1 : Nat) : Int) := by rw [IntWalk.i64_in _ (by omega)]; omega
            obtain ⟨b', o', e', hck⟩ := (hS.below hb).at_ (k - 1) hk1
            cases e'
            by_cases hord : l[k] ≤ l[k - 1]
            · have hbad : Hid (R = 7) := Lib.hid (by
                have h := badAt_order hlt HPK.out h0 hord
                rw [HAT.out k hlt hall.out (by rw [h]; decide), h])
              have hbl : Op.bytesLess l[k - 1] l[k] = false := by rw [bytesLess_eq, decide_eq_false_iff_not]; exact List.not_lt.2 hord
              clear hord
              go_wp2_with fail
              refine h13.out.mono ?_
              rintro e w4 ⟨A4, c4, rfl, hS4, hb4⟩
              have hck4 := cell_below hb4 hck
              go_wp2
              go_ret
              exact ⟨ret_int hbad.out.symm, bt hb hb4⟩
            · have HORD := Lib.hid (fun (_ : 0 < k) => hord)
              have hbl : Op.bytesLess l[k - 1] l[k] = true := by rw [bytesLess_eq, decide_eq_true_eq]; exact List.not_le.1 hord
              clear hord
              have HNEXT : Hid (top l l[k] = true → ∀ j, j < k + 1 → badAt l j = 0) := Lib.hid (fun ht => bad_next hall.out (badAt_ok hlt HPK.out HORD.out ht))
              go_wp2_with fail
              refine h13.out.mono ?_
              rintro e w4 ⟨A4, c4, rfl, hS4, hb4⟩
              have hb24 := bt hb hb4
              have hS4' := hS.below hb24
              have hE4 := hE.below hb24
              have hck4 := cell_below hb4 hck
              clear hS4 hb4 hc hEr hck
              go_wp2
              go_loopw [8, 40] (fun _ i wi => ∃ j : Nat, i = .int .i64 j ∧ j ≤ l.length ∧ Below w4.heap.size w4 wi ∧ Hid ((l.take j).all (fun t => t == l[k] || !within l[k] t) = true)) (fun _ i _ => l.length - (intOf i).toNat)
              case atStart => exact ⟨0, rfl, by omega, Below.refl _ _, Lib.hid (by simp)⟩
              case round =>
                obtain ⟨j, rfl, hj, hbi, halli⟩ := hrel
                by_cases hltj : j < l.length
                · obtain ⟨b', o', e', hcj⟩ := (hS4'.below hbi).at_ j hltj
                  cases e'
                  have hEi := hE4.below hbi
                  have hjs : (⟨l[j].toArray⟩ : ByteArray).size ≤ 9223372036854775807 := by show l[j].toArray.size ≤ _; simpa using HL.out l[j] (List.getElem_mem _)
                  have HT := Lib.hid (fun h => top_take hltj halli.out h)
                  have HN := Lib.hid (fun (h : (l[j] == l[k] || !within l[k] l[j]) = false) => top_not hltj h)
                  by_cases hsame : l[j] = l[k]
                  · have hnext := Lib.hid (HT.out (by rw [beq_iff_eq.2 hsame]; rfl))
                    rw [hsame] at hcj
                    clear hsame
                    go_wp2
                    go_roundw
                    case rel => exact ⟨j + 1, by go_num, by omega, hbi, hnext⟩
                    case measure => simp [intOf]; omega
                  · have hne : (l[j] == l[k]) = false := by rw [beq_eq_false_iff_ne]; exact hsame
                    have hne2 : (l[j] != l[k]) = true := by rw [bne_iff_ne]; exact hsame
                    have HNE := Lib.hid hne
                    have h14 := within_any ⟨l[k].toArray⟩ ⟨l[j].toArray⟩ hks hjs _ hEi
                    rw [List.toList_toArray, List.toList_toArray] at h14
                    clear hsame
                    cases hw : within l[k] l[j] with
                    | true =>
                      rw [hw] at h14
                      have H14 := Lib.hid h14
                      have hbad : Hid (R = 7) := Lib.hid (by
                        have h := badAt_top hlt HPK.out (HN.out (by rw [HNE.out, hw]; rfl))
                        rw [HAT.out k hlt hall.out (by rw [h]; decide), h])
                      clear h14 hw
                      go_wp2_with fail
                      refine H14.out.mono ?_
                      rintro e w5 ⟨rfl, hb5⟩
                      go_wp2
                      go_ret
                      exact ⟨ret_int hbad.out.symm, bt hb24 (bt hbi hb5)⟩
                    | false =>
                      rw [hw] at h14
                      have H14 := Lib.hid h14
                      have hnext := Lib.hid (HT.out (by rw [HNE.out, hw]; rfl))
                      clear h14 hw
                      go_wp2_with fail
                      refine H14.out.mono ?_
                      rintro e w5 ⟨rfl, hb5⟩
                      go_wp2
                      go_roundw
                      case rel => exact ⟨j + 1, by go_num, by omega, bt hbi hb5, hnext⟩
                      case measure => simp [intOf]; omega
                · have htop : Hid (top l l[k] = true) := Lib.hid (by have := halli.out; rwa [List.take_of_length_le (by omega)] at this)
                  have hnext := Lib.hid (HNEXT.out htop.out)
                  go_wp2
                  go_roundw
                  case rel => exact ⟨k + 1, by go_num, by omega, bt hb24 hbi, hnext⟩
                  case measure => simp [intOf]; omega
          · have HORD : Hid (∀ h : 0 < k, ¬ l[k] ≤ l[k - 1]) := Lib.hid (fun h => absurd h h0)
            have hk0 : decide ((0 : Int) < (k : Int)) = false := by rw [decide_eq_false_iff_not]; omega
            have HNEXT : Hid (top l l[k] = true → ∀ j, j < k + 1 → badAt l j = 0) := Lib.hid (fun ht => bad_next hall.out (badAt_ok hlt HPK.out HORD.out ht))
            go_wp2_with fail
            refine h13.out.mono ?_
            rintro e w4 ⟨A4, c4, rfl, hS4, hb4⟩
            have hb24 := bt hb hb4
            have hS4' := hS.below hb24
            have hE4 := hE.below hb24
            clear hS4 hb4 hc hEr
            go_wp2
            go_loopw [8, 40] (fun _ i wi => ∃ j : Nat, i = .int .i64 j ∧ j ≤ l.length ∧ Below w4.heap.size w4 wi ∧ Hid ((l.take j).all (fun t => t == l[k] || !within l[k] t) = true)) (fun _ i _ => l.length - (intOf i).toNat)
            case atStart => exact ⟨0, rfl, by omega, Below.refl _ _, Lib.hid (by simp)⟩
            case round =>
              obtain ⟨j, rfl, hj, hbi, halli⟩ := hrel
              by_cases hltj : j < l.length
              · obtain ⟨b', o', e', hcj⟩ := (hS4'.below hbi).at_ j hltj
                cases e'
                have hEi := hE4.below hbi
                have hjs : (⟨l[j].toArray⟩ : ByteArray).size ≤ 9223372036854775807 := by show l[j].toArray.size ≤ _; simpa using HL.out l[j] (List.getElem_mem _)
                have HT := Lib.hid (fun h => top_take hltj halli.out h)
                have HN := Lib.hid (fun (h : (l[j] == l[k] || !within l[k] l[j]) = false) => top_not hltj h)
                by_cases hsame : l[j] = l[k]
                · have hnext := Lib.hid (HT.out (by rw [beq_iff_eq.2 hsame]; rfl))
                  rw [hsame] at hcj
                  clear hsame
                  go_wp2
                  go_roundw
                  case rel => exact ⟨j + 1, by go_num, by omega, hbi, hnext⟩
                  case measure => simp [intOf]; omega
                · have hne : (l[j] == l[k]) = false := by rw [beq_eq_false_iff_ne]; exact hsame
                  have hne2 : (l[j] != l[k]) = true := by rw [bne_iff_ne]; exact hsame
                  have HNE := Lib.hid hne
                  have h14 := within_any ⟨l[k].toArray⟩ ⟨l[j].toArray⟩ hks hjs _ hEi
                  rw [List.toList_toArray, List.toList_toArray] at h14
                  clear hsame
                  cases hw : within l[k] l[j] with
                  | true =>
                    rw [hw] at h14
                    have H14 := Lib.hid h14
                    have hbad : Hid (R = 7) := Lib.hid (by
                      have h := badAt_top hlt HPK.out (HN.out (by rw [HNE.out, hw]; rfl))
                      rw [HAT.out k hlt hall.out (by rw [h]; decide), h])
                    clear h14 hw
                    go_wp2_with fail
                    refine H14.out.mono ?_
                    rintro e w5 ⟨rfl, hb5⟩
                    go_wp2
                    go_ret
                    exact ⟨ret_int hbad.out.symm, bt hb24 (bt hbi hb5)⟩
                  | false =>
                    rw [hw] at h14
                    have H14 := Lib.hid h14
                    have hnext := Lib.hid (HT.out (by rw [HNE.out, hw]; rfl))
                    clear h14 hw
                    go_wp2_with fail
                    refine H14.out.mono ?_
                    rintro e w5 ⟨rfl, hb5⟩
                    go_wp2
                    go_roundw
                    case rel => exact ⟨j + 1, by go_num, by omega, bt hbi hb5, hnext⟩
                    case measure => simp [intOf]; omega
              · have htop : Hid (top l l[k] = true) := Lib.hid (by have := halli.out; rwa [List.take_of_length_le (by omega)] at this)
                have hnext := Lib.hid (HNEXT.out htop.out)
                go_wp2
                go_roundw
                case rel => exact ⟨k + 1, by go_num, by omega, bt hb24 hbi, hnext⟩
                case measure => simp [intOf]; omega
      · have hend : Hid (R = 0) := Lib.hid (HEND.out (fun j hj => hall.out j (by omega)))
        go_wp2
        go_ret
        exact ⟨ret_int hend.out.symm, hb⟩
end Go.Proofs.YtfofjblkondnbaaGreatDoor.Ch

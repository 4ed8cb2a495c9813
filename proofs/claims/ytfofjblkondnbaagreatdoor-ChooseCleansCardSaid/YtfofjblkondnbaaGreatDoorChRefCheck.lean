/- The walk of wardshipref14.Check. -/
import Derived.Test.YtfofjblkondnbaaGreatDoorChCheck
import Derived.Deep.RegionHeld3
namespace Go.Proofs.YtfofjblkondnbaaGreatDoor.Ch
open Go.RowKit Go.Sort

theorem wpStill_skip {P : Program} {ops : Array Oper} {w : World} {Q : Act → Prop} {a : Act} {o : Oper} {rest : List Oper} (hw : Region.wanted o (yielded ops a.tmps) = false)
    (h : wpStill P ops w Q rest (a.put o.dst undef)) : wpStill P ops w Q (o :: rest) a :=
  wpStill_step fun K hK => by
    rw [if_neg (by rw [hw]; exact Bool.false_ne_true)]
    exact hK _ h

theorem leq_true {a b : Bs} (h : a ≤ b) : (Op.bytesLess a b || a == b) = true := by
  rw [bytesLess_eq]
  by_cases he : a = b
  · simp [he]
  · simp [lt_of_le_ne h he]
theorem leq_false {a b : Bs} (h : ¬ a ≤ b) : Op.bytesLess a b = false ∧ (a == b) = false := by
  refine ⟨?_, ?_⟩
  · rw [bytesLess_eq, decide_eq_false_iff_not]; exact fun hl => h (List.le_of_lt hl)
  · rw [beq_eq_false_iff_ne]; exact fun e => h (by rw [e]; exact List.le_refl _)

set_option maxHeartbeats 4000000 in
set_option maxRecDepth 100000 in
theorem refCheck_any (A : Option Addr) (l : List Bs) (c : Nat) (hl : ∀ s ∈ l, s.length ≤ 4611686018427387900) (w : World) (hS : StrsV w A l) :
    Calls Tryz.prog 25 #[.slice A l.length c] w fun e w' => e = .returned (.int .i64 (checkL l)) ∧ Below w.heap.size w w' := by
  have hm := hS.1
  by_cases h8 : 8 < l.length
  · have hc := Lib.hid (checkL_long h8)
    go_enter Tryz.func25, Tryz.ntmps25
    go_wp2
    go_ret
    exact ⟨ret_int hc.out.symm, Below.refl _ _⟩
  · have HL := Lib.hid hl
    have HEND := Lib.hid (checkL_end h8)
    have HAT := Lib.hid (fun k hk h hb => checkL_at (k := k) h8 hk h hb)
    obtain ⟨R, hR⟩ : ∃ R, R = checkL l := ⟨_, rfl⟩
    rw [← hR] at HEND HAT ⊢
    clear hl hR
    go_enter Tryz.func25, Tryz.ntmps25
    go_wp2
    go_loopw [3] (fun i wr => ∃ k : Nat, i = .int .i64 k ∧ k ≤ l.length ∧ Below w.heap.size w wr ∧ Hid (∀ j, j < k → badAt l j = 0)) (fun i _ => l.length - (intOf i).toNat)
    case atStart => exact ⟨0, rfl, by omega, Below.refl _ _, Lib.hid (by simp)⟩
    case round =>
      obtain ⟨k, rfl, hk, hb, hall⟩ := hrel
      by_cases hlt : k < l.length
      · obtain ⟨b, o, rfl, hc⟩ := (hS.below hb).at_ k hlt
        have hks : (⟨l[k].toArray⟩ : ByteArray).size ≤ 4611686018427387900 := by show l[k].toArray.size ≤ _; simpa using HL.out l[k] (List.getElem_mem _)
        have h13 := refPath_any ⟨l[k].toArray⟩ hks wr
        have hun := fun W (hW : StrsV W (some ⟨b, o, none⟩) l) => under_any (some ⟨b, o, none⟩) l c ⟨l[k].toArray⟩ HL.out hks W hW
        rw [List.toList_toArray] at h13
        simp only at hun
        cases hp : isPath l[k] with
        | false =>
          rw [hp] at h13
          have H13 := Lib.hid h13
          have hbad : Hid (R = 20) := Lib.hid (by
            have h := badAt_path hlt hp
            rw [HAT.out k hlt hall.out (by rw [h]; decide), h])
          clear hp h13 hun
          go_wp2_with fail
          refine H13.out.mono ?_
          rintro e w4 ⟨rfl, hb4⟩
          go_wp2
          go_ret
          exact ⟨ret_int hbad.out.symm, bt hb hb4⟩
        | true =>
          rw [hp] at h13
          have H13 := Lib.hid h13
          have HPK := Lib.hid hp
          clear hp h13
          by_cases h0 : 0 < k
          · have hk1 : k - 1 < l.length := by omega
            have i1 : IntKind.i64.wrap ((k : Int) - 1) = ((k - 1 : Nat) : Int) := by rw [IntWalk.i64_in _ (by omega)]; omega
            obtain ⟨b', o', e', hck⟩ := (hS.below hb).at_ (k - 1) hk1
            cases e'
            by_cases hord : l[k] ≤ l[k - 1]
            · have hbad : Hid (R = 7) := Lib.hid (by
                have h := badAt_order hlt HPK.out h0 hord
                rw [HAT.out k hlt hall.out (by rw [h]; decide), h])
              have hbl : (Op.bytesLess l[k] l[k - 1] || l[k] == l[k - 1]) = true := leq_true hord
              have h0' : (0 : Int) < (k : Int) := by omega
              clear hord hun
              go_wp2_with fail
              refine H13.out.mono ?_
              rintro e w4 ⟨rfl, hb4⟩
              have hck4 := cell_below hb4 hck
              have hc4 := cell_below hb4 hc
              have hb24 := bt hb hb4
              clear hck hc hb4
              go_wp2
              go_quiet (fail)
              go_wp2
              go_ret
              exact ⟨ret_int hbad.out.symm, below_drewN hb24 _⟩
            · obtain ⟨hbl1, hbl2⟩ := leq_false hord
              have hbl3 : (Op.bytesLess l[k] l[k - 1] || l[k] == l[k - 1]) = false := by rw [hbl1, hbl2]; rfl
              have h0' : (0 : Int) < (k : Int) := by omega
              have hk0 : decide ((0 : Int) < (k : Int)) = true := by rw [decide_eq_true_eq]; omega
              have HORD := Lib.hid (fun (_ : 0 < k) => hord)
              have HUN := Lib.hid hun
              clear hord hun
              go_wp2_with fail
              refine H13.out.mono ?_
              rintro e w4 ⟨rfl, hb4⟩
              have hck4 := cell_below hb4 hck
              have hc4 := cell_below hb4 hc
              have hb24 := bt hb hb4
              clear hck hc hb4
              go_wp2
              go_still_tail 20, (by kernel_rfl)
              change wpList _ _ _ _ _ w4.drew
              have hbd := below_drew hb24
              have hcd : w4.drew.cell? ⟨b, o + k, none⟩ = some (encStr l[k]) := hc4
              have hckd : w4.drew.cell? ⟨b, o + (k - 1), none⟩ = some (encStr l[k - 1]) := hck4
              generalize w4.drew = w5 at *
              clear hc4 hck4 hb24
              have HNEXT : Hid (top l l[k] = true → ∀ j, j < k + 1 → badAt l j = 0) := Lib.hid (fun ht => bad_next hall.out (badAt_ok hlt HPK.out HORD.out ht))
              have HBAD : Hid (top l l[k] = false → R = 7) := Lib.hid (fun ht => by
                have h := badAt_top hlt HPK.out ht
                rw [HAT.out k hlt hall.out (by rw [h]; decide), h])
              have hun5 := HUN.out w5 (hS.below hbd)
              cases ht : top l l[k] with
              | true =>
                rw [ht] at hun5
                have HUN5 := Lib.hid hun5
                have hnext := Lib.hid (HNEXT.out ht)
                clear hun5 ht
                go_wp2_with fail
                refine HUN5.out.mono ?_
                rintro e w6 ⟨rfl, hb6⟩
                go_wp2
                go_roundw
                case rel => exact ⟨k + 1, by go_num, by omega, bt hbd hb6, hnext⟩
                case measure => simp [intOf]; omega
              | false =>
                rw [ht] at hun5
                have HUN5 := Lib.hid hun5
                have hbad := Lib.hid (HBAD.out ht)
                clear hun5 ht
                go_wp2_with fail
                refine HUN5.out.mono ?_
                rintro e w6 ⟨rfl, hb6⟩
                go_wp2
                go_ret
                exact ⟨ret_int hbad.out.symm, bt hbd hb6⟩
          · obtain rfl : k = 0 := by omega
            have hc0 : wr.cell? ⟨b, o, none⟩ = some (encStr l[0]) := hc
            clear hc
            have hc := hc0
            clear hc0
            have HORD : Hid (∀ h : 0 < 0, ¬ l[0] ≤ l[0 - 1]) := Lib.hid (fun h => absurd h h0)
            have HUN := Lib.hid hun
            clear hun
            go_wp2_with fail
            refine H13.out.mono ?_
            rintro e w4 ⟨rfl, hb4⟩
            have hc4 := cell_below hb4 hc
            have hb24 := bt hb hb4
            clear hc hb4
            go_wp2
            have hcd : w4.drew.cell? ⟨b, o, none⟩ = some (encStr l[0]) := hc4
            have hbd : Below w.heap.size w w4.drew := below_drew hb24
            have HNEXT : Hid (top l l[0] = true → ∀ j, j < 0 + 1 → badAt l j = 0) := Lib.hid (fun ht => bad_next hall.out (badAt_ok hlt HPK.out HORD.out ht))
            have HBAD : Hid (top l l[0] = false → R = 7) := Lib.hid (fun ht => by
              have h := badAt_top hlt HPK.out ht
              rw [HAT.out 0 hlt hall.out (by rw [h]; decide), h])
            obtain ⟨B, hB⟩ : ∃ B, B = !top l l[0] := ⟨_, rfl⟩
            rw [← hB] at HUN
            refine wp_region_still_tail 20 (by kernel_rfl) (by kernel_rfl) ?_
            simp only [List.take_succ_cons, List.take_zero, List.drop_succ_cons, List.drop_zero]
            still_step
            still_step
            still_step
            (with_reducible refine wpStill_skip (by kernel_rfl) ?_)
            (with_reducible refine wpStill_skip (by kernel_rfl) ?_)
            (with_reducible refine wpStill_skip (by kernel_rfl) ?_)
            (with_reducible refine wpStill_skip (by kernel_rfl) ?_)
            (with_reducible refine wpStill_skip (by kernel_rfl) ?_)
            (with_reducible refine wpStill_skip (by kernel_rfl) ?_)
            (with_reducible refine wpStill_skip (by kernel_rfl) ?_)
            (with_reducible refine wpStill_skip (by kernel_rfl) ?_)
            (with_reducible refine wpStill_skip (by kernel_rfl) ?_)
            (with_reducible refine wpStill_skip (by kernel_rfl) ?_)
            ((with_reducible refine wpStill_step (fun K hK => ?_)); go_simp; refine hK _ ?_; clear hK K)
            ((with_reducible refine wpStill_step (fun K hK => ?_)); go_simp; refine hK _ ?_; clear hK K)
            ((with_reducible refine wpStill_step (fun K hK => ?_)); go_simp; refine hK _ ?_; clear hK K)
            ((with_reducible refine wpStill_step (fun K hK => ?_)); go_simp; refine hK _ ?_; clear hK K)
            ((with_reducible refine wpStill_step (fun K hK => ?_)); go_simp; refine hK _ ?_; clear hK K)
            ((with_reducible refine wpStill_step (fun K hK => ?_)); go_simp; refine hK _ ?_; clear hK K)
            ((with_reducible refine wpStill_step (fun K hK => ?_)); go_simp; refine hK _ ?_; clear hK K)
            refine wpStill_nil ?_
            change wpList _ _ _ _ _ w4.drew
            generalize w4.drew = w5 at *
            have hun5 := HUN.out w5 (hS.below hbd)
            cases ht : top l l[0] with
            | true =>
              rw [ht] at hB
              obtain rfl : B = false := hB
              have HUN5 := Lib.hid hun5
              have hnext := Lib.hid (HNEXT.out ht)
              clear hun5 ht HUN
              go_wp2_with fail
              refine (HUN5.out).mono ?_
              rintro e w6 ⟨rfl, hb6⟩
              go_wp2
              go_roundw
              case rel => exact ⟨1, rfl, by omega, bt hbd hb6, hnext⟩
              case measure => simp [intOf]; omega
            | false =>
              rw [ht] at hB
              obtain rfl : B = true := hB
              have HUN5 := Lib.hid hun5
              have hbad := Lib.hid (HBAD.out ht)
              clear hun5 ht HUN
              go_wp2_with fail
              refine (HUN5.out).mono ?_
              rintro e w6 ⟨rfl, hb6⟩
              go_wp2
              go_ret
              exact ⟨ret_int hbad.out.symm, bt hbd hb6⟩
      · have hend : Hid (R = 0) := Lib.hid (HEND.out (fun j hj => hall.out j (by omega)))
        go_wp2
        go_ret
        exact ⟨ret_int hend.out.symm, hb⟩
end Go.Proofs.YtfofjblkondnbaaGreatDoor.Ch

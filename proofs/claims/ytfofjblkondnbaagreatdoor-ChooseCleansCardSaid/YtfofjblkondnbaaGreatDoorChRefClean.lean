/- The walk of wardshipref14.Clean. -/
import Derived.Test.YtfofjblkondnbaaGreatDoorChRefCheck
import Derived.Test.YtfofjblkondnbaaGreatDoorChRefCleanPlain
import Derived.Test.YtfofjblkondnbaaGreatDoorChApp
import Derived.Test.YtfofjblkondnbaaGreatDoorChMix
namespace Go.Proofs.YtfofjblkondnbaaGreatDoor.Ch
open Go.RowKit Go.Sort

theorem CleanPost.bad {l : List Bs} {w w' : World} {z : Int} (h : cleanL l = ([], z)) (hb : Below w.heap.size w w') : CleanPost l w (.returned (.tuple #[.slice none 0 0, .int .i64 z])) w' :=
  ⟨none, 0, by rw [h]; rfl, by rw [h]; exact StrsV.nil _ none, hb⟩

/-- Where a text is to be put. -/
def GeFrom (s : Bs) (out : List Bs) (k : Nat) : Prop := ∀ j, k ≤ j → (hj : j < out.length) → s ≤ out[j]

set_option maxHeartbeats 8000000 in
set_option maxRecDepth 100000 in
theorem refClean_any (A0 : Option Addr) (l : List Bs) (c0 : Nat) (hl : ∀ s ∈ l, s.length ≤ 4611686018427387900) (hlen : l.length * 16 ≤ 140737488351232) (w : World) (hS0 : StrsV w A0 l) :
    Calls Tryz.prog 22 #[.slice A0 l.length c0] w (CleanPost l w) := by
  have hm := hS0.1
  have HL := Lib.hid hl
  have hun := fun A c (s : Bs) (W : World) (hs : (⟨s.toArray⟩ : ByteArray).size ≤ 4611686018427387900) (hW : StrsV W A l) => under_any A l c ⟨s.toArray⟩ hl hs W hW
  simp only at hun
  have HUN := Lib.hid hun
  clear hl hun
  obtain ⟨i0, hi, hz0, hz1, hz2⟩ := info_parts info_str
  go_enter Tryz.func22, Tryz.ntmps22
  go_wp2
  go_loopw [4, 5] (fun v i wr => ∃ (k : Nat) (A : Option Addr) (out : List Bs) (c : Nat), v = .slice A out.length c ∧ i = .int .i64 k ∧ k ≤ l.length ∧ out.length ≤ k ∧ out.length ≤ c ∧ c ≤ 9223372036854775807 ∧ StrsV wr A out ∧ Below w.heap.size w wr ∧ Hid (InsInv l k out)) (fun _ i _ => l.length - (intOf i).toNat)
  case atStart => exact ⟨0, none, [], 0, rfl, rfl, by omega, by simp, by simp, by simp, StrsV.nil _ _, Below.refl _ _, Lib.hid (InsInv.start l)⟩
  case round =>
    obtain ⟨k, A, out, c, rfl, rfl, hk, hok, hoc, hcm, hSo, hb, hinv⟩ := hrel
    by_cases hlt : k < l.length
    · obtain ⟨b, o, rfl, hc⟩ := (hS0.below hb).at_ k hlt
      have hks : (⟨l[k].toArray⟩ : ByteArray).size ≤ 4611686018427387900 := by show l[k].toArray.size ≤ _; simpa using HL.out l[k] (List.getElem_mem _)
      have h13 := refPath_any ⟨l[k].toArray⟩ hks wr
      rw [List.toList_toArray] at h13
      cases hp : isPath l[k] with
      | false =>
        rw [hp] at h13
        have H13 := Lib.hid h13
        have hbad := Lib.hid (cleanL_path hlt hp)
        clear hp h13
        go_wp2_with fail
        refine (H13.out).mono ?_
        rintro e w4 ⟨rfl, hb4⟩
        go_wp2
        go_ret2
        exact CleanPost.bad hbad.out (bt hb hb4)
      | true =>
        rw [hp] at h13
        have H13 := Lib.hid h13
        have HP := Lib.hid hp
        clear hp h13
        go_wp2_with fail
        refine (H13.out).mono ?_
        rintro e w4 ⟨rfl, hb4⟩
        have hb24 := bt hb hb4
        have hSo4 := hSo.below hb4
        have hc4 := cell_below hb4 hc
        clear hSo hb hc
        obtain ⟨wo, hwo⟩ : ∃ wo : World, wo = wr := ⟨_, rfl⟩
        clear hwo
        go_wp2
        go_loopw [6] (fun x wi => ∃ m : Nat, x = .int .i64 m ∧ m ≤ out.length ∧ Below w4.heap.size w4 wi ∧ Hid (GeFrom l[k] out m)) (fun x _ => (intOf x).toNat)
        case atStart => exact ⟨out.length, rfl, by omega, Below.refl _ _, Lib.hid (fun j hj hj' => by omega)⟩
        case round =>
          obtain ⟨m, rfl, hmo, hbi, hge⟩ := hrel
          have hci := cell_below hbi hc4
          by_cases hgo : ∃ h : 0 < m, l[k] ≤ out[m - 1]'(by omega)
          · obtain ⟨h0, hord⟩ := hgo
            have hm1 : m - 1 < out.length := by omega
            obtain ⟨bo, oo, rfl, hco⟩ := (hSo4.below hbi).at_ (m - 1) hm1
            have i1 : IntKind.i64.wrap ((m : Int) - 1) = ((m - 1 : Nat) : Int) := by rw [IntWalk.i64_in _ (by omega)]; omega
            have hk0 : decide ((0 : Int) < (m : Int)) = true := by rw [decide_eq_true_eq]; omega
            have hbl : (Op.bytesLess l[k] out[m - 1] || l[k] == out[m - 1]) = true := leq_true hord
            have hnext : Hid (GeFrom l[k] out (m - 1)) := Lib.hid (fun j hj hj' => by
              rcases Nat.lt_or_ge j m with hjm | hjm
              · obtain rfl : j = m - 1 := by omega
                exact hord
              · exact hge.out j hjm hj')
            clear hord
            go_wp2
            go_quiet (fail)
            go_wp2
            go_roundw
            case rel => exact ⟨m - 1, by rw [← i1], by omega, below_drewN hbi _, hnext⟩
            case measure => simp [intOf]; omega
          · have HLT : Hid ((h0 : 0 < m) → out[m - 1]'(by omega) < l[k]) := Lib.hid (fun h0 => List.not_le.1 (fun h => hgo ⟨h0, h⟩))
            have hcapm : IntKind.i64.wrap (l.length : Int) = (l.length : Int) := IntWalk.i64_in _ (by omega)
            have HTOP : Hid (top l l[k] = false → InsInv l (k + 1) out) := Lib.hid (fun h => hinv.out.skip hlt HP.out h)
            have HDUP : Hid ((hk : m < out.length) → out[m] = l[k] → InsInv l (k + 1) out) := Lib.hid (fun h e => hinv.out.dup hlt HP.out h e)
            have HINS : Hid (top l l[k] = true → ((hk : m < out.length) → out[m] ≠ l[k]) → InsInv l (k + 1) (insAt m l[k] out)) := Lib.hid (fun h e => hinv.out.ins hlt HP.out h hmo hge.out HLT.out e)
            have HU : Hid (∀ W, StrsV W (some ⟨b, o, none⟩) l → Calls Tryz.prog 66 #[.slice (some ⟨b, o, none⟩) l.length c0, encStr l[k]] W fun e w' => e = .returned (.bool (!top l l[k])) ∧ Below W.heap.size W w') := Lib.hid (fun W hW => HUN.out (some ⟨b, o, none⟩) c0 l[k] W hks hW)
            have HS0 : Hid (∀ n, StrsV (wr.drewN n) (some ⟨b, o, none⟩) l) := Lib.hid (fun n => hS0.below (below_drewN (bt hb24 hbi) n))
            have hbn : Below w4.heap.size w4 wr := hbi
            by_cases h0 : 0 < m
            · have hm1 : m - 1 < out.length := by omega
              obtain ⟨bo, oo, rfl, hco⟩ := (hSo4.below hbi).at_ (m - 1) hm1
              have i1 : IntKind.i64.wrap ((m : Int) - 1) = ((m - 1 : Nat) : Int) := by rw [IntWalk.i64_in _ (by omega)]; omega
              have hk0 : decide ((0 : Int) < (m : Int)) = true := by rw [decide_eq_true_eq]; omega
              obtain ⟨hbl1, hbl2⟩ := leq_false (fun h => hgo ⟨h0, h⟩)
              have hbl3 : (Op.bytesLess l[k] out[m - 1] || l[k] == out[m - 1]) = false := by rw [hbl1, hbl2]; rfl
              clear hgo
              go_wp2
              go_quiet (fail)
              go_wp2
              clear hbl1 hbl2 hbl3 hk0 i1 hco h0
              have hcn : (wr.drewN nq).cell? ⟨b, o + k, none⟩ = some (encStr l[k]) := hci
              have hcn1 : (wr.drewN (nq + 1)).cell? ⟨b, o + k, none⟩ = some (encStr l[k]) := hci
              cases ht : top l l[k] with
              | false =>
                have hU := HU.out
                rw [ht, Bool.not_false] at hU
                have HU2 := Lib.hid hU
                have hnext := Lib.hid (HTOP.out ht)
                clear hU ht HU
                refine wp_region_mix (fun w' => w'.cell? ⟨b, o + k, none⟩ = some (encStr l[k])) [(0, false), (1, false), (2, false), (3, false), (4, false), (5, true), (6, false), (7, false), (8, false), (9, false), (10, false), (11, false), (12, false), (13, false), (14, false), (15, false), (16, false), (17, false), (18, false), (19, false), (20, false), (21, false), (22, false)] (by kernel_rfl) (by kernel_rfl) (by decide +kernel) rfl (fun d _ _ _ _ h => by cases d <;> exact h) (hcn1) ?_
                simp only [List.map_cons, List.map_nil, List.getElem?_toArray, List.getElem?_cons_zero, List.getElem?_cons_succ]
                ((with_reducible refine wpMix_take (v := ?_) ?_ ?_ ?_); rotate_left; (focus kernel_rfl); (focus (intro wS hwS; (try dsimp only at hwS); go_simp; try with_reducible rfl)))
                try simp only [Act.put, List.setIfInBounds_toArray, List.set_cons_zero, List.set_cons_succ]
                ((with_reducible refine wpMix_take (v := ?_) ?_ ?_ ?_); rotate_left; (focus kernel_rfl); (focus (intro wS hwS; (try dsimp only at hwS); go_simp; try with_reducible rfl)))
                try simp only [Act.put, List.setIfInBounds_toArray, List.set_cons_zero, List.set_cons_succ]
                ((with_reducible refine wpMix_take (v := ?_) ?_ ?_ ?_); rotate_left; (focus kernel_rfl); (focus (intro wS hwS; (try dsimp only at hwS); go_simp; try with_reducible rfl)))
                try simp only [Act.put, List.setIfInBounds_toArray, List.set_cons_zero, List.set_cons_succ]
                ((with_reducible refine wpMix_take (v := ?_) ?_ ?_ ?_); rotate_left; (focus kernel_rfl); (focus (intro wS hwS; (try dsimp only at hwS); go_simp; try with_reducible rfl)))
                try simp only [Act.put, List.setIfInBounds_toArray, List.set_cons_zero, List.set_cons_succ]
                ((with_reducible refine wpMix_take (v := ?_) ?_ ?_ ?_); rotate_left; (focus kernel_rfl); (focus (intro wS hwS; (try dsimp only at hwS); go_simp; try with_reducible rfl)))
                try simp only [Act.put, List.setIfInBounds_toArray, List.set_cons_zero, List.set_cons_succ]
                ((with_reducible refine wpMix_carry ?_ (fun K hK => ?_)); (focus kernel_rfl))
                go_simp
                refine (HU2.out _ (HS0.out (nq + 1))).mono ?_
                rintro e w6 ⟨rfl, hb6⟩
                refine hK _ _ (cell_below hb6 hcn1) ?_
                clear hK K
                try simp only [Act.put, List.setIfInBounds_toArray, List.set_cons_zero, List.set_cons_succ]
                ((with_reducible refine wpMix_take (v := ?_) ?_ ?_ ?_); rotate_left; (focus kernel_rfl); (focus (intro wS hwS; (try dsimp only at hwS); go_simp; try with_reducible rfl)))
                try simp only [Act.put, List.setIfInBounds_toArray, List.set_cons_zero, List.set_cons_succ]
                ((with_reducible refine wpMix_skip ?_ ?_); (focus kernel_rfl))
                ((with_reducible refine wpMix_skip ?_ ?_); (focus kernel_rfl))
                ((with_reducible refine wpMix_skip ?_ ?_); (focus kernel_rfl))
                ((with_reducible refine wpMix_skip ?_ ?_); (focus kernel_rfl))
                ((with_reducible refine wpMix_skip ?_ ?_); (focus kernel_rfl))
                ((with_reducible refine wpMix_skip ?_ ?_); (focus kernel_rfl))
                ((with_reducible refine wpMix_skip ?_ ?_); (focus kernel_rfl))
                ((with_reducible refine wpMix_skip ?_ ?_); (focus kernel_rfl))
                ((with_reducible refine wpMix_skip ?_ ?_); (focus kernel_rfl))
                ((with_reducible refine wpMix_skip ?_ ?_); (focus kernel_rfl))
                ((with_reducible refine wpMix_skip ?_ ?_); (focus kernel_rfl))
                ((with_reducible refine wpMix_skip ?_ ?_); (focus kernel_rfl))
                ((with_reducible refine wpMix_skip ?_ ?_); (focus kernel_rfl))
                ((with_reducible refine wpMix_skip ?_ ?_); (focus kernel_rfl))
                ((with_reducible refine wpMix_skip ?_ ?_); (focus kernel_rfl))
                try simp only [Act.put, List.setIfInBounds_toArray, List.set_cons_zero, List.set_cons_succ]
                ((with_reducible refine wpMix_take (v := ?_) ?_ ?_ ?_); rotate_left; (focus kernel_rfl); (focus (intro wS hwS; (try dsimp only at hwS); go_simp; try with_reducible rfl)))
                try simp only [Act.put, List.setIfInBounds_toArray, List.set_cons_zero, List.set_cons_succ]
                refine wpMix_nil ?_
                have hbe : Below w.heap.size w w6 := bt (below_drewN (bt hb24 hbn) (nq + 1)) hb6
                have hSe := hSo4.below (bt (below_drewN hbn (nq + 1)) hb6)
                go_wp2
                go_roundw
                case rel => exact ⟨k + 1, _, out, c, rfl, by go_num, by omega, by omega, hoc, hcm, hSe, hbe, hnext⟩
                case measure => simp [intOf]; omega
              | true =>
                have hU := HU.out
                rw [ht, Bool.not_true] at hU
                have HU2 := Lib.hid hU
                have HT := Lib.hid ht
                clear hU ht HU
                by_cases hd : ∃ h : m < out.length, out[m] = l[k]
                · obtain ⟨hml, he⟩ := hd
                  obtain ⟨bq, oq, e', hcm'⟩ := (hSo4.below hbi).at_ m hml
                  cases e'
                  have hml' : decide ((m : Int) < (out.length : Int)) = true := by rw [decide_eq_true_eq]; omega
                  have hnext := Lib.hid (HDUP.out hml he)
                  rw [he] at hcm'
                  clear he
                  have hcmn : (wr.drewN nq).cell? ⟨bo, oo + m, none⟩ = some (encStr l[k]) := hcm'
                  have hcmn1 : (wr.drewN (nq + 1)).cell? ⟨bo, oo + m, none⟩ = some (encStr l[k]) := hcm'
                  refine wp_region_mix (fun w' => w'.cell? ⟨b, o + k, none⟩ = some (encStr l[k]) ∧ w'.cell? ⟨bo, oo + m, none⟩ = some (encStr l[k])) [(0, false), (1, false), (2, false), (3, false), (4, false), (5, true), (6, false), (7, false), (8, false), (9, false), (10, false), (11, false), (12, false), (13, false), (14, false), (15, false), (16, false), (17, false), (18, false), (19, false), (20, false), (21, false), (22, false)] (by kernel_rfl) (by kernel_rfl) (by decide +kernel) rfl (fun d _ _ _ _ h => by cases d <;> exact h) (⟨hcn1, hcmn1⟩) ?_
                  simp only [List.map_cons, List.map_nil, List.getElem?_toArray, List.getElem?_cons_zero, List.getElem?_cons_succ]
                  ((with_reducible refine wpMix_take (v := ?_) ?_ ?_ ?_); rotate_left; (focus kernel_rfl); (focus (intro wS hwS; (try dsimp only at hwS); go_simp; try with_reducible rfl)))
                  try simp only [Act.put, List.setIfInBounds_toArray, List.set_cons_zero, List.set_cons_succ]
                  ((with_reducible refine wpMix_take (v := ?_) ?_ ?_ ?_); rotate_left; (focus kernel_rfl); (focus (intro wS hwS; (try dsimp only at hwS); go_simp; try with_reducible rfl)))
                  try simp only [Act.put, List.setIfInBounds_toArray, List.set_cons_zero, List.set_cons_succ]
                  ((with_reducible refine wpMix_take (v := ?_) ?_ ?_ ?_); rotate_left; (focus kernel_rfl); (focus (intro wS hwS; (try dsimp only at hwS); go_simp; try with_reducible rfl)))
                  try simp only [Act.put, List.setIfInBounds_toArray, List.set_cons_zero, List.set_cons_succ]
                  ((with_reducible refine wpMix_take (v := ?_) ?_ ?_ ?_); rotate_left; (focus kernel_rfl); (focus (intro wS hwS; (try dsimp only at hwS); go_simp; try with_reducible rfl)))
                  try simp only [Act.put, List.setIfInBounds_toArray, List.set_cons_zero, List.set_cons_succ]
                  ((with_reducible refine wpMix_take (v := ?_) ?_ ?_ ?_); rotate_left; (focus kernel_rfl); (focus (intro wS hwS; (try dsimp only at hwS); go_simp; try with_reducible rfl)))
                  try simp only [Act.put, List.setIfInBounds_toArray, List.set_cons_zero, List.set_cons_succ]
                  ((with_reducible refine wpMix_carry ?_ (fun K hK => ?_)); (focus kernel_rfl))
                  go_simp
                  refine (HU2.out _ (HS0.out (nq + 1))).mono ?_
                  rintro e w6 ⟨rfl, hb6⟩
                  refine hK _ _ (⟨cell_below hb6 hcn1, cell_below hb6 hcmn1⟩) ?_
                  clear hK K
                  try simp only [Act.put, List.setIfInBounds_toArray, List.set_cons_zero, List.set_cons_succ]
                  ((with_reducible refine wpMix_take (v := ?_) ?_ ?_ ?_); rotate_left; (focus kernel_rfl); (focus (intro wS hwS; (try dsimp only at hwS); go_simp; try with_reducible rfl)))
                  try simp only [Act.put, List.setIfInBounds_toArray, List.set_cons_zero, List.set_cons_succ]
                  ((with_reducible refine wpMix_take (v := ?_) ?_ ?_ ?_); rotate_left; (focus kernel_rfl); (focus (intro wS hwS; (try dsimp only at hwS); go_simp; try with_reducible rfl)))
                  try simp only [Act.put, List.setIfInBounds_toArray, List.set_cons_zero, List.set_cons_succ]
                  ((with_reducible refine wpMix_take (v := ?_) ?_ ?_ ?_); rotate_left; (focus kernel_rfl); (focus (intro wS hwS; (try dsimp only at hwS); go_simp; try with_reducible rfl)))
                  try simp only [Act.put, List.setIfInBounds_toArray, List.set_cons_zero, List.set_cons_succ]
                  ((with_reducible refine wpMix_take (v := ?_) ?_ ?_ ?_); rotate_left; (focus kernel_rfl); (focus (intro wS hwS; (try dsimp only at hwS); go_simp; try with_reducible rfl)))
                  try simp only [Act.put, List.setIfInBounds_toArray, List.set_cons_zero, List.set_cons_succ]
                  ((with_reducible refine wpMix_take (v := ?_) ?_ ?_ ?_); rotate_left; (focus kernel_rfl); (focus (intro wS hwS; (try dsimp only at hwS); go_simp; try with_reducible rfl)))
                  try simp only [Act.put, List.setIfInBounds_toArray, List.set_cons_zero, List.set_cons_succ]
                  ((with_reducible refine wpMix_take (v := ?_) ?_ ?_ ?_); rotate_left; (focus kernel_rfl); (focus (intro wS hwS; (try dsimp only at hwS); go_simp; try with_reducible rfl)))
                  try simp only [Act.put, List.setIfInBounds_toArray, List.set_cons_zero, List.set_cons_succ]
                  ((with_reducible refine wpMix_take (v := ?_) ?_ ?_ ?_); rotate_left; (focus kernel_rfl); (focus (intro wS hwS; (try dsimp only at hwS); go_simp; try with_reducible rfl)))
                  try simp only [Act.put, List.setIfInBounds_toArray, List.set_cons_zero, List.set_cons_succ]
                  ((with_reducible refine wpMix_take (v := ?_) ?_ ?_ ?_); rotate_left; (focus kernel_rfl); (focus (intro wS hwS; (try dsimp only at hwS); go_simp; try with_reducible rfl)))
                  try simp only [Act.put, List.setIfInBounds_toArray, List.set_cons_zero, List.set_cons_succ]
                  ((with_reducible refine wpMix_take (v := ?_) ?_ ?_ ?_); rotate_left; (focus kernel_rfl); (focus (intro wS hwS; (try dsimp only at hwS); go_simp; try with_reducible rfl)))
                  try simp only [Act.put, List.setIfInBounds_toArray, List.set_cons_zero, List.set_cons_succ]
                  ((with_reducible refine wpMix_take (v := ?_) ?_ ?_ ?_); rotate_left; (focus kernel_rfl); (focus (intro wS hwS; (try dsimp only at hwS); go_simp; try with_reducible rfl)))
                  try simp only [Act.put, List.setIfInBounds_toArray, List.set_cons_zero, List.set_cons_succ]
                  ((with_reducible refine wpMix_take (v := ?_) ?_ ?_ ?_); rotate_left; (focus kernel_rfl); (focus (intro wS hwS; (try dsimp only at hwS); go_simp; try with_reducible rfl)))
                  try simp only [Act.put, List.setIfInBounds_toArray, List.set_cons_zero, List.set_cons_succ]
                  ((with_reducible refine wpMix_take (v := ?_) ?_ ?_ ?_); rotate_left; (focus kernel_rfl); (focus (intro wS hwS; (try dsimp only at hwS); go_simp; try with_reducible rfl)))
                  try simp only [Act.put, List.setIfInBounds_toArray, List.set_cons_zero, List.set_cons_succ]
                  ((with_reducible refine wpMix_take (v := ?_) ?_ ?_ ?_); rotate_left; (focus kernel_rfl); (focus (intro wS hwS; (try dsimp only at hwS); go_simp; try with_reducible rfl)))
                  try simp only [Act.put, List.setIfInBounds_toArray, List.set_cons_zero, List.set_cons_succ]
                  ((with_reducible refine wpMix_take (v := ?_) ?_ ?_ ?_); rotate_left; (focus kernel_rfl); (focus (intro wS hwS; (try dsimp only at hwS); go_simp; try with_reducible rfl)))
                  try simp only [Act.put, List.setIfInBounds_toArray, List.set_cons_zero, List.set_cons_succ]
                  ((with_reducible refine wpMix_take (v := ?_) ?_ ?_ ?_); rotate_left; (focus kernel_rfl); (focus (intro wS hwS; (try dsimp only at hwS); go_simp; try with_reducible rfl)))
                  try simp only [Act.put, List.setIfInBounds_toArray, List.set_cons_zero, List.set_cons_succ]
                  ((with_reducible refine wpMix_take (v := ?_) ?_ ?_ ?_); rotate_left; (focus kernel_rfl); (focus (intro wS hwS; (try dsimp only at hwS); go_simp; try with_reducible rfl)))
                  try simp only [Act.put, List.setIfInBounds_toArray, List.set_cons_zero, List.set_cons_succ]
                  ((with_reducible refine wpMix_take (v := ?_) ?_ ?_ ?_); rotate_left; (focus kernel_rfl); (focus (intro wS hwS; (try dsimp only at hwS); go_simp; try with_reducible rfl)))
                  try simp only [Act.put, List.setIfInBounds_toArray, List.set_cons_zero, List.set_cons_succ]
                  refine wpMix_nil ?_
                  have hbe : Below w.heap.size w w6 := bt (below_drewN (bt hb24 hbn) (nq + 1)) hb6
                  have hSe := hSo4.below (bt (below_drewN hbn (nq + 1)) hb6)
                  go_wp2
                  go_roundw
                  case rel => exact ⟨k + 1, _, out, c, rfl, by go_num, by omega, by omega, hoc, hcm, hSe, hbe, hnext⟩
                  case measure => simp [intOf]; omega
                · have hnext : Hid (InsInv l (k + 1) (insAt m l[k] out)) := Lib.hid (HINS.out HT.out (fun h e => hd ⟨h, e⟩))
                  by_cases hml : m < out.length
                  · obtain ⟨bq, oq, e', hcm'⟩ := (hSo4.below hbi).at_ m hml
                    cases e'
                    have hml' : decide ((m : Int) < (out.length : Int)) = true := by rw [decide_eq_true_eq]; omega
                    have hne : (out[m] == l[k]) = false := by rw [beq_eq_false_iff_ne]; exact fun e => hd ⟨hml, e⟩
                    have hcmn : (wr.drewN nq).cell? ⟨bo, oo + m, none⟩ = some (encStr out[m]) := hcm'
                    have hcmn1 : (wr.drewN (nq + 1)).cell? ⟨bo, oo + m, none⟩ = some (encStr out[m]) := hcm'
                    clear hd
                    refine wp_region_mix (fun w' => w'.cell? ⟨b, o + k, none⟩ = some (encStr l[k]) ∧ w'.cell? ⟨bo, oo + m, none⟩ = some (encStr out[m])) [(0, false), (1, false), (2, false), (3, false), (4, false), (5, true), (6, false), (7, false), (8, false), (9, false), (10, false), (11, false), (12, false), (13, false), (14, false), (15, false), (16, false), (17, false), (18, false), (19, false), (20, false), (21, false), (22, false)] (by kernel_rfl) (by kernel_rfl) (by decide +kernel) rfl (fun d _ _ _ _ h => by cases d <;> exact h) (⟨hcn1, hcmn1⟩) ?_
                    simp only [List.map_cons, List.map_nil, List.getElem?_toArray, List.getElem?_cons_zero, List.getElem?_cons_succ]
                    ((with_reducible refine wpMix_take (v := ?_) ?_ ?_ ?_); rotate_left; (focus kernel_rfl); (focus (intro wS hwS; (try dsimp only at hwS); go_simp; try with_reducible rfl)))
                    try simp only [Act.put, List.setIfInBounds_toArray, List.set_cons_zero, List.set_cons_succ]
                    ((with_reducible refine wpMix_take (v := ?_) ?_ ?_ ?_); rotate_left; (focus kernel_rfl); (focus (intro wS hwS; (try dsimp only at hwS); go_simp; try with_reducible rfl)))
                    try simp only [Act.put, List.setIfInBounds_toArray, List.set_cons_zero, List.set_cons_succ]
                    ((with_reducible refine wpMix_take (v := ?_) ?_ ?_ ?_); rotate_left; (focus kernel_rfl); (focus (intro wS hwS; (try dsimp only at hwS); go_simp; try with_reducible rfl)))
                    try simp only [Act.put, List.setIfInBounds_toArray, List.set_cons_zero, List.set_cons_succ]
                    ((with_reducible refine wpMix_take (v := ?_) ?_ ?_ ?_); rotate_left; (focus kernel_rfl); (focus (intro wS hwS; (try dsimp only at hwS); go_simp; try with_reducible rfl)))
                    try simp only [Act.put, List.setIfInBounds_toArray, List.set_cons_zero, List.set_cons_succ]
                    ((with_reducible refine wpMix_take (v := ?_) ?_ ?_ ?_); rotate_left; (focus kernel_rfl); (focus (intro wS hwS; (try dsimp only at hwS); go_simp; try with_reducible rfl)))
                    try simp only [Act.put, List.setIfInBounds_toArray, List.set_cons_zero, List.set_cons_succ]
                    ((with_reducible refine wpMix_carry ?_ (fun K hK => ?_)); (focus kernel_rfl))
                    go_simp
                    refine (HU2.out _ (HS0.out (nq + 1))).mono ?_
                    rintro e w6 ⟨rfl, hb6⟩
                    refine hK _ _ (⟨cell_below hb6 hcn1, cell_below hb6 hcmn1⟩) ?_
                    clear hK K
                    try simp only [Act.put, List.setIfInBounds_toArray, List.set_cons_zero, List.set_cons_succ]
                    ((with_reducible refine wpMix_take (v := ?_) ?_ ?_ ?_); rotate_left; (focus kernel_rfl); (focus (intro wS hwS; (try dsimp only at hwS); go_simp; try with_reducible rfl)))
                    try simp only [Act.put, List.setIfInBounds_toArray, List.set_cons_zero, List.set_cons_succ]
                    ((with_reducible refine wpMix_take (v := ?_) ?_ ?_ ?_); rotate_left; (focus kernel_rfl); (focus (intro wS hwS; (try dsimp only at hwS); go_simp; try with_reducible rfl)))
                    try simp only [Act.put, List.setIfInBounds_toArray, List.set_cons_zero, List.set_cons_succ]
                    ((with_reducible refine wpMix_take (v := ?_) ?_ ?_ ?_); rotate_left; (focus kernel_rfl); (focus (intro wS hwS; (try dsimp only at hwS); go_simp; try with_reducible rfl)))
                    try simp only [Act.put, List.setIfInBounds_toArray, List.set_cons_zero, List.set_cons_succ]
                    ((with_reducible refine wpMix_take (v := ?_) ?_ ?_ ?_); rotate_left; (focus kernel_rfl); (focus (intro wS hwS; (try dsimp only at hwS); go_simp; try with_reducible rfl)))
                    try simp only [Act.put, List.setIfInBounds_toArray, List.set_cons_zero, List.set_cons_succ]
                    ((with_reducible refine wpMix_take (v := ?_) ?_ ?_ ?_); rotate_left; (focus kernel_rfl); (focus (intro wS hwS; (try dsimp only at hwS); go_simp; try with_reducible rfl)))
                    try simp only [Act.put, List.setIfInBounds_toArray, List.set_cons_zero, List.set_cons_succ]
                    ((with_reducible refine wpMix_take (v := ?_) ?_ ?_ ?_); rotate_left; (focus kernel_rfl); (focus (intro wS hwS; (try dsimp only at hwS); go_simp; try with_reducible rfl)))
                    try simp only [Act.put, List.setIfInBounds_toArray, List.set_cons_zero, List.set_cons_succ]
                    ((with_reducible refine wpMix_take (v := ?_) ?_ ?_ ?_); rotate_left; (focus kernel_rfl); (focus (intro wS hwS; (try dsimp only at hwS); go_simp; try with_reducible rfl)))
                    try simp only [Act.put, List.setIfInBounds_toArray, List.set_cons_zero, List.set_cons_succ]
                    ((with_reducible refine wpMix_take (v := ?_) ?_ ?_ ?_); rotate_left; (focus kernel_rfl); (focus (intro wS hwS; (try dsimp only at hwS); go_simp; try with_reducible rfl)))
                    try simp only [Act.put, List.setIfInBounds_toArray, List.set_cons_zero, List.set_cons_succ]
                    ((with_reducible refine wpMix_take (v := ?_) ?_ ?_ ?_); rotate_left; (focus kernel_rfl); (focus (intro wS hwS; (try dsimp only at hwS); go_simp; try with_reducible rfl)))
                    try simp only [Act.put, List.setIfInBounds_toArray, List.set_cons_zero, List.set_cons_succ]
                    ((with_reducible refine wpMix_take (v := ?_) ?_ ?_ ?_); rotate_left; (focus kernel_rfl); (focus (intro wS hwS; (try dsimp only at hwS); go_simp; try with_reducible rfl)))
                    try simp only [Act.put, List.setIfInBounds_toArray, List.set_cons_zero, List.set_cons_succ]
                    ((with_reducible refine wpMix_take (v := ?_) ?_ ?_ ?_); rotate_left; (focus kernel_rfl); (focus (intro wS hwS; (try dsimp only at hwS); go_simp; try with_reducible rfl)))
                    try simp only [Act.put, List.setIfInBounds_toArray, List.set_cons_zero, List.set_cons_succ]
                    ((with_reducible refine wpMix_take (v := ?_) ?_ ?_ ?_); rotate_left; (focus kernel_rfl); (focus (intro wS hwS; (try dsimp only at hwS); go_simp; try with_reducible rfl)))
                    try simp only [Act.put, List.setIfInBounds_toArray, List.set_cons_zero, List.set_cons_succ]
                    ((with_reducible refine wpMix_take (v := ?_) ?_ ?_ ?_); rotate_left; (focus kernel_rfl); (focus (intro wS hwS; (try dsimp only at hwS); go_simp; try with_reducible rfl)))
                    try simp only [Act.put, List.setIfInBounds_toArray, List.set_cons_zero, List.set_cons_succ]
                    ((with_reducible refine wpMix_take (v := ?_) ?_ ?_ ?_); rotate_left; (focus kernel_rfl); (focus (intro wS hwS; (try dsimp only at hwS); go_simp; try with_reducible rfl)))
                    try simp only [Act.put, List.setIfInBounds_toArray, List.set_cons_zero, List.set_cons_succ]
                    ((with_reducible refine wpMix_take (v := ?_) ?_ ?_ ?_); rotate_left; (focus kernel_rfl); (focus (intro wS hwS; (try dsimp only at hwS); go_simp; try with_reducible rfl)))
                    try simp only [Act.put, List.setIfInBounds_toArray, List.set_cons_zero, List.set_cons_succ]
                    ((with_reducible refine wpMix_take (v := ?_) ?_ ?_ ?_); rotate_left; (focus kernel_rfl); (focus (intro wS hwS; (try dsimp only at hwS); go_simp; try with_reducible rfl)))
                    try simp only [Act.put, List.setIfInBounds_toArray, List.set_cons_zero, List.set_cons_succ]
                    ((with_reducible refine wpMix_take (v := ?_) ?_ ?_ ?_); rotate_left; (focus kernel_rfl); (focus (intro wS hwS; (try dsimp only at hwS); go_simp; try with_reducible rfl)))
                    try simp only [Act.put, List.setIfInBounds_toArray, List.set_cons_zero, List.set_cons_succ]
                    refine wpMix_nil ?_
                    have hbe : Below w.heap.size w w6 := bt (below_drewN (bt hb24 hbn) (nq + 1)) hb6
                    have hSe := hSo4.below (bt (below_drewN hbn (nq + 1)) hb6)
                    have hc6 : w6.cell? ⟨b, o + k, none⟩ = some (encStr l[k]) := cell_below hb6 hcn1
                    go_wp2
                    have hs1 := slice_from (P := Tryz.prog) Tryz.underlying22 (show (Tryz.prog.info? 9).map (·.size) = some 1 by kernel_rfl) (some ⟨bo, oo, none⟩) out.length c m hmo
                    have hs2 := slice_to (P := Tryz.prog) Tryz.underlying22 (show (Tryz.prog.info? 9).map (·.size) = some 1 by kernel_rfl) (some ⟨bo, oo, none⟩) out.length c m (by omega)
                    have hcut := at_cut (strsV_at hSe) out.length 1 m c (by simp) hmo hoc
                    have htk : At w6 (some ⟨bo, oo, none⟩) ((out.map encStr).take m) := (strsV_at hSe).take m
                    obtain ⟨A1, hA1⟩ : ∃ A1 : Option Addr, A1 = (if c = m then ((some ⟨bo, oo, none⟩) : Option Addr) else Option.map (fun x : Addr => x.add (m * 1)) ((some ⟨bo, oo, none⟩) : Option Addr)) := ⟨_, rfl⟩
                    rw [← hA1] at hs1 hcut
                    clear hA1
                    have hblt : b < w6.heap.size := World.block_lt_of_cell? w6 _ hc6
                    refine wp_region_mix (fun w' => w'.cell? ⟨b, o + k, none⟩ = some (encStr l[k])) [(0, false), (1, false), (2, false), (3, false), (5, false), (6, false), (7, false), (4, true), (8, true), (9, false)] (by kernel_rfl) (by kernel_rfl) (by decide +kernel) rfl (fun d _ _ _ _ h => by cases d <;> exact h) (hc6) ?_
                    simp only [List.map_cons, List.map_nil, List.getElem?_toArray, List.getElem?_cons_zero, List.getElem?_cons_succ]
                    ((with_reducible refine wpMix_take (v := ?_) ?_ ?_ ?_); rotate_left; (focus kernel_rfl); (focus (intro wS hwS; (try dsimp only at hwS); go_simp; try with_reducible rfl)))
                    try simp only [Act.put, List.setIfInBounds_toArray, List.set_cons_zero, List.set_cons_succ]
                    ((with_reducible refine wpMix_take (v := ?_) ?_ ?_ ?_); rotate_left; (focus kernel_rfl); (focus (intro wS hwS; (try dsimp only at hwS); go_simp; try with_reducible rfl)))
                    try simp only [Act.put, List.setIfInBounds_toArray, List.set_cons_zero, List.set_cons_succ]
                    ((with_reducible refine wpMix_take (v := ?_) ?_ ?_ ?_); rotate_left; (focus kernel_rfl); (focus (intro wS hwS; (try dsimp only at hwS); go_simp; try with_reducible rfl)))
                    try simp only [Act.put, List.setIfInBounds_toArray, List.set_cons_zero, List.set_cons_succ]
                    ((with_reducible refine wpMix_take (v := ?_) ?_ ?_ ?_); rotate_left; (focus kernel_rfl); (focus (intro wS hwS; (try dsimp only at hwS); go_simp; try with_reducible rfl)))
                    try simp only [Act.put, List.setIfInBounds_toArray, List.set_cons_zero, List.set_cons_succ]
                    ((with_reducible refine wpMix_take (v := ?_) ?_ ?_ ?_); rotate_left; (focus kernel_rfl); (focus (intro wS hwS; (try dsimp only at hwS); go_simp; try with_reducible rfl)))
                    try simp only [Act.put, List.setIfInBounds_toArray, List.set_cons_zero, List.set_cons_succ]
                    ((with_reducible refine wpMix_take (v := ?_) ?_ ?_ ?_); rotate_left; (focus kernel_rfl); (focus (intro wS hwS; (try dsimp only at hwS); go_simp; try with_reducible rfl)))
                    try simp only [Act.put, List.setIfInBounds_toArray, List.set_cons_zero, List.set_cons_succ]
                    ((with_reducible refine wpMix_take (v := ?_) ?_ ?_ ?_); rotate_left; (focus kernel_rfl); (focus (intro wS hwS; (try dsimp only at hwS); go_simp; try with_reducible rfl)))
                    try simp only [Act.put, List.setIfInBounds_toArray, List.set_cons_zero, List.set_cons_succ]
                    ((with_reducible refine wpMix_carry ?_ (fun K hK => ?_)); (focus kernel_rfl))
                    go_simp
                    refine hK _ _ (cell_below (bal w6.drew _) hc6) ?_
                    clear hK K
                    try simp only [Act.put, List.setIfInBounds_toArray, List.set_cons_zero, List.set_cons_succ]
                    ((with_reducible refine wpMix_carry ?_ (fun K hK => ?_)); (focus kernel_rfl))
                    refine append_wp _ (.tmp 65) (.tmp 68) 22 rfl w6.heap.size 9 i0 (.string ByteArray.empty) 1 16 Tryz.underlying22 hi hz0 hz1 hz2 rfl (by decide) _ 1 [encStr l[k]] rfl (own_lit w6.drew 9 1 1 #[encStr l[k]] rfl (by decide)) A1 (out.length - m) (c - m) ((out.map encStr).drop (m * 1)) rfl (by simp) (hcut.below (below_drew (bal w6 _))) (fun u hu => one_str out u (List.mem_of_mem_drop hu)) (by unfold maxLen; omega) (by omega) (by simp) ?_
                    intro v7 w7 hown7 hgrow7 hat7
                    refine hK _ _ (hgrow7.cell (cell_below (bal w6.drew _) hc6) (fun e => absurd (Option.some.inj e) (Nat.ne_of_lt hblt))) ?_
                    clear hK K
                    try simp only [Act.put, List.setIfInBounds_toArray, List.set_cons_zero, List.set_cons_succ]
                    ((with_reducible refine wpMix_take (v := ?_) ?_ ?_ ?_); rotate_left; (focus kernel_rfl); (focus (intro wS hwS; (try dsimp only at hwS); go_simp; try with_reducible rfl)))
                    try simp only [Act.put, List.setIfInBounds_toArray, List.set_cons_zero, List.set_cons_succ]
                    refine wpMix_nil ?_
                    have hb67 : Below w6.heap.size w6 w7 := below_grown (below_drew (bal w6 (.cells #[encStr l[k]] 9))) hgrow7 (fun q e => Nat.le_of_eq (Option.some.inj e))
                    obtain ⟨A7, c7, rfl, hn7, hc7, hAt7⟩ := own_form hown7
                    clear hcut hs1 hgrow7 hat7
                    go_wp2_with (first
                      | (at_builtin; refine append_list _ rfl (.tmp 70) (.tmp 73) 22 rfl w7.heap.size 9 i0 (.string ByteArray.empty) 1 16 Tryz.underlying22 hi hz0 hz1 hz2 rfl (by decide) _ 0 [] rfl (own_lit w7 9 1 0 #[] rfl (by decide)) (some ⟨bo, oo, none⟩) m c ((out.map encStr).take m) rfl (by simp; omega) ((htk.below hb67).below (bal w7 _)) (fun u hu => one_str out u (List.mem_of_mem_take hu)) (by unfold maxLen; omega) (by omega) (by simp) ?_; intro v8 w8 hown8 hgrow8 hat8; have hb78 : Below w7.heap.size w7 w8 := below_grown (bal w7 (.cells #[] 9)) hgrow8 (fun q e => Nat.le_of_eq (Option.some.inj e)))
                      | (at_builtin; refine append_list _ rfl (.tmp 74) (.tmp 75) 22 rfl w7.heap.size 9 i0 (.string ByteArray.empty) 1 16 Tryz.underlying22 hi hz0 hz1 hz2 rfl (by decide) v8 (0 + m) ([] ++ (out.map encStr).take m) rfl hown8 A7 (1 + (out.length - m)) c7 ([encStr l[k]] ++ (out.map encStr).drop (m * 1)) rfl (by simp; omega) (hAt7.below hb78) (fun u hu => by rcases List.mem_append.1 hu with h | h; (obtain rfl := List.mem_singleton.1 h; rfl); exact one_str out u (List.mem_of_mem_drop h)) (by unfold maxLen; omega) (by omega) hb78.size ?_; intro v9 w9 hown9 hgrow9 hat9))
                    have HOWN : w9.ownsRow w7.heap.size 9 1 v9 (insAt m l[k] out).length ((insAt m l[k] out).map encStr) := by
                      have e1 : 0 + m + (1 + (out.length - m)) = (insAt m l[k] out).length := by rw [insAt_length hmo]; omega
                      have e2 : [] ++ (out.map encStr).take m ++ ([encStr l[k]] ++ (out.map encStr).drop (m * 1)) = (insAt m l[k] out).map encStr := by simp [insAt]
                      rw [← e1, ← e2]; exact hown9
                    have hb79 : Below w7.heap.size w7 w9 := below_grown hb78 hgrow9 (fun q e => (hown8.lt q e).1)
                    have hil : (insAt m l[k] out).length ≤ k + 1 := by rw [insAt_length hmo]; omega
                    obtain ⟨A9, c9, rfl, hn9, hc9, hAt9⟩ := own_form HOWN
                    unfold maxLen at hc9
                    go_roundw
                    case rel => exact ⟨k + 1, A9, insAt m l[k] out, c9, rfl, by go_num, by omega, hil, hn9, by omega, strsV_of_at (by omega) hAt9, bt hbe (bt hb67 hb79), hnext⟩
                    case measure => simp [intOf]; omega
                  · have hml' : decide ((m : Int) < (out.length : Int)) = false := by rw [decide_eq_false_iff_not]; omega
                    clear hd
                    refine wp_region_mix (fun w' => w'.cell? ⟨b, o + k, none⟩ = some (encStr l[k])) [(0, false), (1, false), (2, false), (3, false), (4, false), (5, true), (6, false), (7, false), (8, false), (9, false), (10, false), (11, false), (12, false), (13, false), (14, false), (15, false), (16, false), (17, false), (18, false), (19, false), (20, false), (21, false), (22, false)] (by kernel_rfl) (by kernel_rfl) (by decide +kernel) rfl (fun d _ _ _ _ h => by cases d <;> exact h) (hcn1) ?_
                    simp only [List.map_cons, List.map_nil, List.getElem?_toArray, List.getElem?_cons_zero, List.getElem?_cons_succ]
                    ((with_reducible refine wpMix_take (v := ?_) ?_ ?_ ?_); rotate_left; (focus kernel_rfl); (focus (intro wS hwS; (try dsimp only at hwS); go_simp; try with_reducible rfl)))
                    try simp only [Act.put, List.setIfInBounds_toArray, List.set_cons_zero, List.set_cons_succ]
                    ((with_reducible refine wpMix_take (v := ?_) ?_ ?_ ?_); rotate_left; (focus kernel_rfl); (focus (intro wS hwS; (try dsimp only at hwS); go_simp; try with_reducible rfl)))
                    try simp only [Act.put, List.setIfInBounds_toArray, List.set_cons_zero, List.set_cons_succ]
                    ((with_reducible refine wpMix_take (v := ?_) ?_ ?_ ?_); rotate_left; (focus kernel_rfl); (focus (intro wS hwS; (try dsimp only at hwS); go_simp; try with_reducible rfl)))
                    try simp only [Act.put, List.setIfInBounds_toArray, List.set_cons_zero, List.set_cons_succ]
                    ((with_reducible refine wpMix_take (v := ?_) ?_ ?_ ?_); rotate_left; (focus kernel_rfl); (focus (intro wS hwS; (try dsimp only at hwS); go_simp; try with_reducible rfl)))
                    try simp only [Act.put, List.setIfInBounds_toArray, List.set_cons_zero, List.set_cons_succ]
                    ((with_reducible refine wpMix_take (v := ?_) ?_ ?_ ?_); rotate_left; (focus kernel_rfl); (focus (intro wS hwS; (try dsimp only at hwS); go_simp; try with_reducible rfl)))
                    try simp only [Act.put, List.setIfInBounds_toArray, List.set_cons_zero, List.set_cons_succ]
                    ((with_reducible refine wpMix_carry ?_ (fun K hK => ?_)); (focus kernel_rfl))
                    go_simp
                    refine (HU2.out _ (HS0.out (nq + 1))).mono ?_
                    rintro e w6 ⟨rfl, hb6⟩
                    refine hK _ _ (cell_below hb6 hcn1) ?_
                    clear hK K
                    try simp only [Act.put, List.setIfInBounds_toArray, List.set_cons_zero, List.set_cons_succ]
                    ((with_reducible refine wpMix_take (v := ?_) ?_ ?_ ?_); rotate_left; (focus kernel_rfl); (focus (intro wS hwS; (try dsimp only at hwS); go_simp; try with_reducible rfl)))
                    try simp only [Act.put, List.setIfInBounds_toArray, List.set_cons_zero, List.set_cons_succ]
                    ((with_reducible refine wpMix_take (v := ?_) ?_ ?_ ?_); rotate_left; (focus kernel_rfl); (focus (intro wS hwS; (try dsimp only at hwS); go_simp; try with_reducible rfl)))
                    try simp only [Act.put, List.setIfInBounds_toArray, List.set_cons_zero, List.set_cons_succ]
                    ((with_reducible refine wpMix_take (v := ?_) ?_ ?_ ?_); rotate_left; (focus kernel_rfl); (focus (intro wS hwS; (try dsimp only at hwS); go_simp; try with_reducible rfl)))
                    try simp only [Act.put, List.setIfInBounds_toArray, List.set_cons_zero, List.set_cons_succ]
                    ((with_reducible refine wpMix_take (v := ?_) ?_ ?_ ?_); rotate_left; (focus kernel_rfl); (focus (intro wS hwS; (try dsimp only at hwS); go_simp; try with_reducible rfl)))
                    try simp only [Act.put, List.setIfInBounds_toArray, List.set_cons_zero, List.set_cons_succ]
                    ((with_reducible refine wpMix_take (v := ?_) ?_ ?_ ?_); rotate_left; (focus kernel_rfl); (focus (intro wS hwS; (try dsimp only at hwS); go_simp; try with_reducible rfl)))
                    try simp only [Act.put, List.setIfInBounds_toArray, List.set_cons_zero, List.set_cons_succ]
                    ((with_reducible refine wpMix_take (v := ?_) ?_ ?_ ?_); rotate_left; (focus kernel_rfl); (focus (intro wS hwS; (try dsimp only at hwS); go_simp; try with_reducible rfl)))
                    try simp only [Act.put, List.setIfInBounds_toArray, List.set_cons_zero, List.set_cons_succ]
                    ((with_reducible refine wpMix_skip ?_ ?_); (focus kernel_rfl))
                    ((with_reducible refine wpMix_skip ?_ ?_); (focus kernel_rfl))
                    ((with_reducible refine wpMix_skip ?_ ?_); (focus kernel_rfl))
                    ((with_reducible refine wpMix_skip ?_ ?_); (focus kernel_rfl))
                    ((with_reducible refine wpMix_skip ?_ ?_); (focus kernel_rfl))
                    ((with_reducible refine wpMix_skip ?_ ?_); (focus kernel_rfl))
                    ((with_reducible refine wpMix_skip ?_ ?_); (focus kernel_rfl))
                    ((with_reducible refine wpMix_skip ?_ ?_); (focus kernel_rfl))
                    ((with_reducible refine wpMix_skip ?_ ?_); (focus kernel_rfl))
                    try simp only [Act.put, List.setIfInBounds_toArray, List.set_cons_zero, List.set_cons_succ]
                    ((with_reducible refine wpMix_take (v := ?_) ?_ ?_ ?_); rotate_left; (focus kernel_rfl); (focus (intro wS hwS; (try dsimp only at hwS); go_simp; try with_reducible rfl)))
                    try simp only [Act.put, List.setIfInBounds_toArray, List.set_cons_zero, List.set_cons_succ]
                    ((with_reducible refine wpMix_take (v := ?_) ?_ ?_ ?_); rotate_left; (focus kernel_rfl); (focus (intro wS hwS; (try dsimp only at hwS); go_simp; try with_reducible rfl)))
                    try simp only [Act.put, List.setIfInBounds_toArray, List.set_cons_zero, List.set_cons_succ]
                    refine wpMix_nil ?_
                    have hbe : Below w.heap.size w w6 := bt (below_drewN (bt hb24 hbn) (nq + 1)) hb6
                    have hSe := hSo4.below (bt (below_drewN hbn (nq + 1)) hb6)
                    have hc6 : w6.cell? ⟨b, o + k, none⟩ = some (encStr l[k]) := cell_below hb6 hcn1
                    go_wp2
                    have hs1 := slice_from (P := Tryz.prog) Tryz.underlying22 (show (Tryz.prog.info? 9).map (·.size) = some 1 by kernel_rfl) (some ⟨bo, oo, none⟩) out.length c m hmo
                    have hs2 := slice_to (P := Tryz.prog) Tryz.underlying22 (show (Tryz.prog.info? 9).map (·.size) = some 1 by kernel_rfl) (some ⟨bo, oo, none⟩) out.length c m (by omega)
                    have hcut := at_cut (strsV_at hSe) out.length 1 m c (by simp) hmo hoc
                    have htk : At w6 (some ⟨bo, oo, none⟩) ((out.map encStr).take m) := (strsV_at hSe).take m
                    obtain ⟨A1, hA1⟩ : ∃ A1 : Option Addr, A1 = (if c = m then ((some ⟨bo, oo, none⟩) : Option Addr) else Option.map (fun x : Addr => x.add (m * 1)) ((some ⟨bo, oo, none⟩) : Option Addr)) := ⟨_, rfl⟩
                    rw [← hA1] at hs1 hcut
                    clear hA1
                    have hblt : b < w6.heap.size := World.block_lt_of_cell? w6 _ hc6
                    refine wp_region_mix (fun w' => w'.cell? ⟨b, o + k, none⟩ = some (encStr l[k])) [(0, false), (1, false), (2, false), (3, false), (5, false), (6, false), (7, false), (4, true), (8, true), (9, false)] (by kernel_rfl) (by kernel_rfl) (by decide +kernel) rfl (fun d _ _ _ _ h => by cases d <;> exact h) (hc6) ?_
                    simp only [List.map_cons, List.map_nil, List.getElem?_toArray, List.getElem?_cons_zero, List.getElem?_cons_succ]
                    ((with_reducible refine wpMix_take (v := ?_) ?_ ?_ ?_); rotate_left; (focus kernel_rfl); (focus (intro wS hwS; (try dsimp only at hwS); go_simp; try with_reducible rfl)))
                    try simp only [Act.put, List.setIfInBounds_toArray, List.set_cons_zero, List.set_cons_succ]
                    ((with_reducible refine wpMix_take (v := ?_) ?_ ?_ ?_); rotate_left; (focus kernel_rfl); (focus (intro wS hwS; (try dsimp only at hwS); go_simp; try with_reducible rfl)))
                    try simp only [Act.put, List.setIfInBounds_toArray, List.set_cons_zero, List.set_cons_succ]
                    ((with_reducible refine wpMix_take (v := ?_) ?_ ?_ ?_); rotate_left; (focus kernel_rfl); (focus (intro wS hwS; (try dsimp only at hwS); go_simp; try with_reducible rfl)))
                    try simp only [Act.put, List.setIfInBounds_toArray, List.set_cons_zero, List.set_cons_succ]
                    ((with_reducible refine wpMix_take (v := ?_) ?_ ?_ ?_); rotate_left; (focus kernel_rfl); (focus (intro wS hwS; (try dsimp only at hwS); go_simp; try with_reducible rfl)))
                    try simp only [Act.put, List.setIfInBounds_toArray, List.set_cons_zero, List.set_cons_succ]
                    ((with_reducible refine wpMix_take (v := ?_) ?_ ?_ ?_); rotate_left; (focus kernel_rfl); (focus (intro wS hwS; (try dsimp only at hwS); go_simp; try with_reducible rfl)))
                    try simp only [Act.put, List.setIfInBounds_toArray, List.set_cons_zero, List.set_cons_succ]
                    ((with_reducible refine wpMix_take (v := ?_) ?_ ?_ ?_); rotate_left; (focus kernel_rfl); (focus (intro wS hwS; (try dsimp only at hwS); go_simp; try with_reducible rfl)))
                    try simp only [Act.put, List.setIfInBounds_toArray, List.set_cons_zero, List.set_cons_succ]
                    ((with_reducible refine wpMix_take (v := ?_) ?_ ?_ ?_); rotate_left; (focus kernel_rfl); (focus (intro wS hwS; (try dsimp only at hwS); go_simp; try with_reducible rfl)))
                    try simp only [Act.put, List.setIfInBounds_toArray, List.set_cons_zero, List.set_cons_succ]
                    ((with_reducible refine wpMix_carry ?_ (fun K hK => ?_)); (focus kernel_rfl))
                    go_simp
                    refine hK _ _ (cell_below (bal w6.drew _) hc6) ?_
                    clear hK K
                    try simp only [Act.put, List.setIfInBounds_toArray, List.set_cons_zero, List.set_cons_succ]
                    ((with_reducible refine wpMix_carry ?_ (fun K hK => ?_)); (focus kernel_rfl))
                    refine append_wp _ (.tmp 65) (.tmp 68) 22 rfl w6.heap.size 9 i0 (.string ByteArray.empty) 1 16 Tryz.underlying22 hi hz0 hz1 hz2 rfl (by decide) _ 1 [encStr l[k]] rfl (own_lit w6.drew 9 1 1 #[encStr l[k]] rfl (by decide)) A1 (out.length - m) (c - m) ((out.map encStr).drop (m * 1)) rfl (by simp) (hcut.below (below_drew (bal w6 _))) (fun u hu => one_str out u (List.mem_of_mem_drop hu)) (by unfold maxLen; omega) (by omega) (by simp) ?_
                    intro v7 w7 hown7 hgrow7 hat7
                    refine hK _ _ (hgrow7.cell (cell_below (bal w6.drew _) hc6) (fun e => absurd (Option.some.inj e) (Nat.ne_of_lt hblt))) ?_
                    clear hK K
                    try simp only [Act.put, List.setIfInBounds_toArray, List.set_cons_zero, List.set_cons_succ]
                    ((with_reducible refine wpMix_take (v := ?_) ?_ ?_ ?_); rotate_left; (focus kernel_rfl); (focus (intro wS hwS; (try dsimp only at hwS); go_simp; try with_reducible rfl)))
                    try simp only [Act.put, List.setIfInBounds_toArray, List.set_cons_zero, List.set_cons_succ]
                    refine wpMix_nil ?_
                    have hb67 : Below w6.heap.size w6 w7 := below_grown (below_drew (bal w6 (.cells #[encStr l[k]] 9))) hgrow7 (fun q e => Nat.le_of_eq (Option.some.inj e))
                    obtain ⟨A7, c7, rfl, hn7, hc7, hAt7⟩ := own_form hown7
                    clear hcut hs1 hgrow7 hat7
                    go_wp2_with (first
                      | (at_builtin; refine append_list _ rfl (.tmp 70) (.tmp 73) 22 rfl w7.heap.size 9 i0 (.string ByteArray.empty) 1 16 Tryz.underlying22 hi hz0 hz1 hz2 rfl (by decide) _ 0 [] rfl (own_lit w7 9 1 0 #[] rfl (by decide)) (some ⟨bo, oo, none⟩) m c ((out.map encStr).take m) rfl (by simp; omega) ((htk.below hb67).below (bal w7 _)) (fun u hu => one_str out u (List.mem_of_mem_take hu)) (by unfold maxLen; omega) (by omega) (by simp) ?_; intro v8 w8 hown8 hgrow8 hat8; have hb78 : Below w7.heap.size w7 w8 := below_grown (bal w7 (.cells #[] 9)) hgrow8 (fun q e => Nat.le_of_eq (Option.some.inj e)))
                      | (at_builtin; refine append_list _ rfl (.tmp 74) (.tmp 75) 22 rfl w7.heap.size 9 i0 (.string ByteArray.empty) 1 16 Tryz.underlying22 hi hz0 hz1 hz2 rfl (by decide) v8 (0 + m) ([] ++ (out.map encStr).take m) rfl hown8 A7 (1 + (out.length - m)) c7 ([encStr l[k]] ++ (out.map encStr).drop (m * 1)) rfl (by simp; omega) (hAt7.below hb78) (fun u hu => by rcases List.mem_append.1 hu with h | h; (obtain rfl := List.mem_singleton.1 h; rfl); exact one_str out u (List.mem_of_mem_drop h)) (by unfold maxLen; omega) (by omega) hb78.size ?_; intro v9 w9 hown9 hgrow9 hat9))
                    have HOWN : w9.ownsRow w7.heap.size 9 1 v9 (insAt m l[k] out).length ((insAt m l[k] out).map encStr) := by
                      have e1 : 0 + m + (1 + (out.length - m)) = (insAt m l[k] out).length := by rw [insAt_length hmo]; omega
                      have e2 : [] ++ (out.map encStr).take m ++ ([encStr l[k]] ++ (out.map encStr).drop (m * 1)) = (insAt m l[k] out).map encStr := by simp [insAt]
                      rw [← e1, ← e2]; exact hown9
                    have hb79 : Below w7.heap.size w7 w9 := below_grown hb78 hgrow9 (fun q e => (hown8.lt q e).1)
                    have hil : (insAt m l[k] out).length ≤ k + 1 := by rw [insAt_length hmo]; omega
                    obtain ⟨A9, c9, rfl, hn9, hc9, hAt9⟩ := own_form HOWN
                    unfold maxLen at hc9
                    go_roundw
                    case rel => exact ⟨k + 1, A9, insAt m l[k] out, c9, rfl, by go_num, by omega, hil, hn9, by omega, strsV_of_at (by omega) hAt9, bt hbe (bt hb67 hb79), hnext⟩
                    case measure => simp [intOf]; omega
            · have hk0 : decide ((0 : Int) < (m : Int)) = false := by rw [decide_eq_false_iff_not]; omega
              clear hgo
              go_wp2
              go_quiet (fail)
              go_wp2
              clear hk0 h0
              have hcn : (wr.drewN nq).cell? ⟨b, o + k, none⟩ = some (encStr l[k]) := hci
              have hcn1 : (wr.drewN (nq + 1)).cell? ⟨b, o + k, none⟩ = some (encStr l[k]) := hci
              cases ht : top l l[k] with
              | false =>
                have hU := HU.out
                rw [ht, Bool.not_false] at hU
                have HU2 := Lib.hid hU
                have hnext := Lib.hid (HTOP.out ht)
                clear hU ht HU
                refine wp_region_mix (fun w' => w'.cell? ⟨b, o + k, none⟩ = some (encStr l[k])) [(0, false), (1, false), (2, false), (3, false), (4, false), (5, true), (6, false), (7, false), (8, false), (9, false), (10, false), (11, false), (12, false), (13, false), (14, false), (15, false), (16, false), (17, false), (18, false), (19, false), (20, false), (21, false), (22, false)] (by kernel_rfl) (by kernel_rfl) (by decide +kernel) rfl (fun d _ _ _ _ h => by cases d <;> exact h) (hcn1) ?_
                simp only [List.map_cons, List.map_nil, List.getElem?_toArray, List.getElem?_cons_zero, List.getElem?_cons_succ]
                ((with_reducible refine wpMix_take (v := ?_) ?_ ?_ ?_); rotate_left; (focus kernel_rfl); (focus (intro wS hwS; (try dsimp only at hwS); go_simp; try with_reducible rfl)))
                try simp only [Act.put, List.setIfInBounds_toArray, List.set_cons_zero, List.set_cons_succ]
                ((with_reducible refine wpMix_take (v := ?_) ?_ ?_ ?_); rotate_left; (focus kernel_rfl); (focus (intro wS hwS; (try dsimp only at hwS); go_simp; try with_reducible rfl)))
                try simp only [Act.put, List.setIfInBounds_toArray, List.set_cons_zero, List.set_cons_succ]
                ((with_reducible refine wpMix_take (v := ?_) ?_ ?_ ?_); rotate_left; (focus kernel_rfl); (focus (intro wS hwS; (try dsimp only at hwS); go_simp; try with_reducible rfl)))
                try simp only [Act.put, List.setIfInBounds_toArray, List.set_cons_zero, List.set_cons_succ]
                ((with_reducible refine wpMix_take (v := ?_) ?_ ?_ ?_); rotate_left; (focus kernel_rfl); (focus (intro wS hwS; (try dsimp only at hwS); go_simp; try with_reducible rfl)))
                try simp only [Act.put, List.setIfInBounds_toArray, List.set_cons_zero, List.set_cons_succ]
                ((with_reducible refine wpMix_take (v := ?_) ?_ ?_ ?_); rotate_left; (focus kernel_rfl); (focus (intro wS hwS; (try dsimp only at hwS); go_simp; try with_reducible rfl)))
                try simp only [Act.put, List.setIfInBounds_toArray, List.set_cons_zero, List.set_cons_succ]
                ((with_reducible refine wpMix_carry ?_ (fun K hK => ?_)); (focus kernel_rfl))
                go_simp
                refine (HU2.out _ (HS0.out (nq + 1))).mono ?_
                rintro e w6 ⟨rfl, hb6⟩
                refine hK _ _ (cell_below hb6 hcn1) ?_
                clear hK K
                try simp only [Act.put, List.setIfInBounds_toArray, List.set_cons_zero, List.set_cons_succ]
                ((with_reducible refine wpMix_take (v := ?_) ?_ ?_ ?_); rotate_left; (focus kernel_rfl); (focus (intro wS hwS; (try dsimp only at hwS); go_simp; try with_reducible rfl)))
                try simp only [Act.put, List.setIfInBounds_toArray, List.set_cons_zero, List.set_cons_succ]
                ((with_reducible refine wpMix_skip ?_ ?_); (focus kernel_rfl))
                ((with_reducible refine wpMix_skip ?_ ?_); (focus kernel_rfl))
                ((with_reducible refine wpMix_skip ?_ ?_); (focus kernel_rfl))
                ((with_reducible refine wpMix_skip ?_ ?_); (focus kernel_rfl))
                ((with_reducible refine wpMix_skip ?_ ?_); (focus kernel_rfl))
                ((with_reducible refine wpMix_skip ?_ ?_); (focus kernel_rfl))
                ((with_reducible refine wpMix_skip ?_ ?_); (focus kernel_rfl))
                ((with_reducible refine wpMix_skip ?_ ?_); (focus kernel_rfl))
                ((with_reducible refine wpMix_skip ?_ ?_); (focus kernel_rfl))
                ((with_reducible refine wpMix_skip ?_ ?_); (focus kernel_rfl))
                ((with_reducible refine wpMix_skip ?_ ?_); (focus kernel_rfl))
                ((with_reducible refine wpMix_skip ?_ ?_); (focus kernel_rfl))
                ((with_reducible refine wpMix_skip ?_ ?_); (focus kernel_rfl))
                ((with_reducible refine wpMix_skip ?_ ?_); (focus kernel_rfl))
                ((with_reducible refine wpMix_skip ?_ ?_); (focus kernel_rfl))
                try simp only [Act.put, List.setIfInBounds_toArray, List.set_cons_zero, List.set_cons_succ]
                ((with_reducible refine wpMix_take (v := ?_) ?_ ?_ ?_); rotate_left; (focus kernel_rfl); (focus (intro wS hwS; (try dsimp only at hwS); go_simp; try with_reducible rfl)))
                try simp only [Act.put, List.setIfInBounds_toArray, List.set_cons_zero, List.set_cons_succ]
                refine wpMix_nil ?_
                have hbe : Below w.heap.size w w6 := bt (below_drewN (bt hb24 hbn) (nq + 1)) hb6
                have hSe := hSo4.below (bt (below_drewN hbn (nq + 1)) hb6)
                go_wp2
                go_roundw
                case rel => exact ⟨k + 1, _, out, c, rfl, by go_num, by omega, by omega, hoc, hcm, hSe, hbe, hnext⟩
                case measure => simp [intOf]; omega
              | true =>
                have hU := HU.out
                rw [ht, Bool.not_true] at hU
                have HU2 := Lib.hid hU
                have HT := Lib.hid ht
                clear hU ht HU
                by_cases hd : ∃ h : m < out.length, out[m] = l[k]
                · obtain ⟨hml, he⟩ := hd
                  obtain ⟨bq, oq, e', hcm'⟩ := (hSo4.below hbi).at_ m hml
                  cases e'
                  have hml' : decide ((m : Int) < (out.length : Int)) = true := by rw [decide_eq_true_eq]; omega
                  have hnext := Lib.hid (HDUP.out hml he)
                  rw [he] at hcm'
                  clear he
                  have hcmn : (wr.drewN nq).cell? ⟨bq, oq + m, none⟩ = some (encStr l[k]) := hcm'
                  have hcmn1 : (wr.drewN (nq + 1)).cell? ⟨bq, oq + m, none⟩ = some (encStr l[k]) := hcm'
                  refine wp_region_mix (fun w' => w'.cell? ⟨b, o + k, none⟩ = some (encStr l[k]) ∧ w'.cell? ⟨bq, oq + m, none⟩ = some (encStr l[k])) [(0, false), (1, false), (2, false), (3, false), (4, false), (5, true), (6, false), (7, false), (8, false), (9, false), (10, false), (11, false), (12, false), (13, false), (14, false), (15, false), (16, false), (17, false), (18, false), (19, false), (20, false), (21, false), (22, false)] (by kernel_rfl) (by kernel_rfl) (by decide +kernel) rfl (fun d _ _ _ _ h => by cases d <;> exact h) (⟨hcn1, hcmn1⟩) ?_
                  simp only [List.map_cons, List.map_nil, List.getElem?_toArray, List.getElem?_cons_zero, List.getElem?_cons_succ]
                  ((with_reducible refine wpMix_take (v := ?_) ?_ ?_ ?_); rotate_left; (focus kernel_rfl); (focus (intro wS hwS; (try dsimp only at hwS); go_simp; try with_reducible rfl)))
                  try simp only [Act.put, List.setIfInBounds_toArray, List.set_cons_zero, List.set_cons_succ]
                  ((with_reducible refine wpMix_take (v := ?_) ?_ ?_ ?_); rotate_left; (focus kernel_rfl); (focus (intro wS hwS; (try dsimp only at hwS); go_simp; try with_reducible rfl)))
                  try simp only [Act.put, List.setIfInBounds_toArray, List.set_cons_zero, List.set_cons_succ]
                  ((with_reducible refine wpMix_take (v := ?_) ?_ ?_ ?_); rotate_left; (focus kernel_rfl); (focus (intro wS hwS; (try dsimp only at hwS); go_simp; try with_reducible rfl)))
                  try simp only [Act.put, List.setIfInBounds_toArray, List.set_cons_zero, List.set_cons_succ]
                  ((with_reducible refine wpMix_take (v := ?_) ?_ ?_ ?_); rotate_left; (focus kernel_rfl); (focus (intro wS hwS; (try dsimp only at hwS); go_simp; try with_reducible rfl)))
                  try simp only [Act.put, List.setIfInBounds_toArray, List.set_cons_zero, List.set_cons_succ]
                  ((with_reducible refine wpMix_take (v := ?_) ?_ ?_ ?_); rotate_left; (focus kernel_rfl); (focus (intro wS hwS; (try dsimp only at hwS); go_simp; try with_reducible rfl)))
                  try simp only [Act.put, List.setIfInBounds_toArray, List.set_cons_zero, List.set_cons_succ]
                  ((with_reducible refine wpMix_carry ?_ (fun K hK => ?_)); (focus kernel_rfl))
                  go_simp
                  refine (HU2.out _ (HS0.out (nq + 1))).mono ?_
                  rintro e w6 ⟨rfl, hb6⟩
                  refine hK _ _ (⟨cell_below hb6 hcn1, cell_below hb6 hcmn1⟩) ?_
                  clear hK K
                  try simp only [Act.put, List.setIfInBounds_toArray, List.set_cons_zero, List.set_cons_succ]
                  ((with_reducible refine wpMix_take (v := ?_) ?_ ?_ ?_); rotate_left; (focus kernel_rfl); (focus (intro wS hwS; (try dsimp only at hwS); go_simp; try with_reducible rfl)))
                  try simp only [Act.put, List.setIfInBounds_toArray, List.set_cons_zero, List.set_cons_succ]
                  ((with_reducible refine wpMix_take (v := ?_) ?_ ?_ ?_); rotate_left; (focus kernel_rfl); (focus (intro wS hwS; (try dsimp only at hwS); go_simp; try with_reducible rfl)))
                  try simp only [Act.put, List.setIfInBounds_toArray, List.set_cons_zero, List.set_cons_succ]
                  ((with_reducible refine wpMix_take (v := ?_) ?_ ?_ ?_); rotate_left; (focus kernel_rfl); (focus (intro wS hwS; (try dsimp only at hwS); go_simp; try with_reducible rfl)))
                  try simp only [Act.put, List.setIfInBounds_toArray, List.set_cons_zero, List.set_cons_succ]
                  ((with_reducible refine wpMix_take (v := ?_) ?_ ?_ ?_); rotate_left; (focus kernel_rfl); (focus (intro wS hwS; (try dsimp only at hwS); go_simp; try with_reducible rfl)))
                  try simp only [Act.put, List.setIfInBounds_toArray, List.set_cons_zero, List.set_cons_succ]
                  ((with_reducible refine wpMix_take (v := ?_) ?_ ?_ ?_); rotate_left; (focus kernel_rfl); (focus (intro wS hwS; (try dsimp only at hwS); go_simp; try with_reducible rfl)))
                  try simp only [Act.put, List.setIfInBounds_toArray, List.set_cons_zero, List.set_cons_succ]
                  ((with_reducible refine wpMix_take (v := ?_) ?_ ?_ ?_); rotate_left; (focus kernel_rfl); (focus (intro wS hwS; (try dsimp only at hwS); go_simp; try with_reducible rfl)))
                  try simp only [Act.put, List.setIfInBounds_toArray, List.set_cons_zero, List.set_cons_succ]
                  ((with_reducible refine wpMix_take (v := ?_) ?_ ?_ ?_); rotate_left; (focus kernel_rfl); (focus (intro wS hwS; (try dsimp only at hwS); go_simp; try with_reducible rfl)))
                  try simp only [Act.put, List.setIfInBounds_toArray, List.set_cons_zero, List.set_cons_succ]
                  ((with_reducible refine wpMix_take (v := ?_) ?_ ?_ ?_); rotate_left; (focus kernel_rfl); (focus (intro wS hwS; (try dsimp only at hwS); go_simp; try with_reducible rfl)))
                  try simp only [Act.put, List.setIfInBounds_toArray, List.set_cons_zero, List.set_cons_succ]
                  ((with_reducible refine wpMix_take (v := ?_) ?_ ?_ ?_); rotate_left; (focus kernel_rfl); (focus (intro wS hwS; (try dsimp only at hwS); go_simp; try with_reducible rfl)))
                  try simp only [Act.put, List.setIfInBounds_toArray, List.set_cons_zero, List.set_cons_succ]
                  ((with_reducible refine wpMix_take (v := ?_) ?_ ?_ ?_); rotate_left; (focus kernel_rfl); (focus (intro wS hwS; (try dsimp only at hwS); go_simp; try with_reducible rfl)))
                  try simp only [Act.put, List.setIfInBounds_toArray, List.set_cons_zero, List.set_cons_succ]
                  ((with_reducible refine wpMix_take (v := ?_) ?_ ?_ ?_); rotate_left; (focus kernel_rfl); (focus (intro wS hwS; (try dsimp only at hwS); go_simp; try with_reducible rfl)))
                  try simp only [Act.put, List.setIfInBounds_toArray, List.set_cons_zero, List.set_cons_succ]
                  ((with_reducible refine wpMix_take (v := ?_) ?_ ?_ ?_); rotate_left; (focus kernel_rfl); (focus (intro wS hwS; (try dsimp only at hwS); go_simp; try with_reducible rfl)))
                  try simp only [Act.put, List.setIfInBounds_toArray, List.set_cons_zero, List.set_cons_succ]
                  ((with_reducible refine wpMix_take (v := ?_) ?_ ?_ ?_); rotate_left; (focus kernel_rfl); (focus (intro wS hwS; (try dsimp only at hwS); go_simp; try with_reducible rfl)))
                  try simp only [Act.put, List.setIfInBounds_toArray, List.set_cons_zero, List.set_cons_succ]
                  ((with_reducible refine wpMix_take (v := ?_) ?_ ?_ ?_); rotate_left; (focus kernel_rfl); (focus (intro wS hwS; (try dsimp only at hwS); go_simp; try with_reducible rfl)))
                  try simp only [Act.put, List.setIfInBounds_toArray, List.set_cons_zero, List.set_cons_succ]
                  ((with_reducible refine wpMix_take (v := ?_) ?_ ?_ ?_); rotate_left; (focus kernel_rfl); (focus (intro wS hwS; (try dsimp only at hwS); go_simp; try with_reducible rfl)))
                  try simp only [Act.put, List.setIfInBounds_toArray, List.set_cons_zero, List.set_cons_succ]
                  ((with_reducible refine wpMix_take (v := ?_) ?_ ?_ ?_); rotate_left; (focus kernel_rfl); (focus (intro wS hwS; (try dsimp only at hwS); go_simp; try with_reducible rfl)))
                  try simp only [Act.put, List.setIfInBounds_toArray, List.set_cons_zero, List.set_cons_succ]
                  ((with_reducible refine wpMix_take (v := ?_) ?_ ?_ ?_); rotate_left; (focus kernel_rfl); (focus (intro wS hwS; (try dsimp only at hwS); go_simp; try with_reducible rfl)))
                  try simp only [Act.put, List.setIfInBounds_toArray, List.set_cons_zero, List.set_cons_succ]
                  refine wpMix_nil ?_
                  have hbe : Below w.heap.size w w6 := bt (below_drewN (bt hb24 hbn) (nq + 1)) hb6
                  have hSe := hSo4.below (bt (below_drewN hbn (nq + 1)) hb6)
                  go_wp2
                  go_roundw
                  case rel => exact ⟨k + 1, _, out, c, rfl, by go_num, by omega, by omega, hoc, hcm, hSe, hbe, hnext⟩
                  case measure => simp [intOf]; omega
                · have hnext : Hid (InsInv l (k + 1) (insAt m l[k] out)) := Lib.hid (HINS.out HT.out (fun h e => hd ⟨h, e⟩))
                  by_cases hml : m < out.length
                  · obtain ⟨bq, oq, e', hcm'⟩ := (hSo4.below hbi).at_ m hml
                    cases e'
                    have hml' : decide ((m : Int) < (out.length : Int)) = true := by rw [decide_eq_true_eq]; omega
                    have hne : (out[m] == l[k]) = false := by rw [beq_eq_false_iff_ne]; exact fun e => hd ⟨hml, e⟩
                    have hcmn : (wr.drewN nq).cell? ⟨bq, oq + m, none⟩ = some (encStr out[m]) := hcm'
                    have hcmn1 : (wr.drewN (nq + 1)).cell? ⟨bq, oq + m, none⟩ = some (encStr out[m]) := hcm'
                    clear hd
                    refine wp_region_mix (fun w' => w'.cell? ⟨b, o + k, none⟩ = some (encStr l[k]) ∧ w'.cell? ⟨bq, oq + m, none⟩ = some (encStr out[m])) [(0, false), (1, false), (2, false), (3, false), (4, false), (5, true), (6, false), (7, false), (8, false), (9, false), (10, false), (11, false), (12, false), (13, false), (14, false), (15, false), (16, false), (17, false), (18, false), (19, false), (20, false), (21, false), (22, false)] (by kernel_rfl) (by kernel_rfl) (by decide +kernel) rfl (fun d _ _ _ _ h => by cases d <;> exact h) (⟨hcn1, hcmn1⟩) ?_
                    simp only [List.map_cons, List.map_nil, List.getElem?_toArray, List.getElem?_cons_zero, List.getElem?_cons_succ]
                    ((with_reducible refine wpMix_take (v := ?_) ?_ ?_ ?_); rotate_left; (focus kernel_rfl); (focus (intro wS hwS; (try dsimp only at hwS); go_simp; try with_reducible rfl)))
                    try simp only [Act.put, List.setIfInBounds_toArray, List.set_cons_zero, List.set_cons_succ]
                    ((with_reducible refine wpMix_take (v := ?_) ?_ ?_ ?_); rotate_left; (focus kernel_rfl); (focus (intro wS hwS; (try dsimp only at hwS); go_simp; try with_reducible rfl)))
                    try simp only [Act.put, List.setIfInBounds_toArray, List.set_cons_zero, List.set_cons_succ]
                    ((with_reducible refine wpMix_take (v := ?_) ?_ ?_ ?_); rotate_left; (focus kernel_rfl); (focus (intro wS hwS; (try dsimp only at hwS); go_simp; try with_reducible rfl)))
                    try simp only [Act.put, List.setIfInBounds_toArray, List.set_cons_zero, List.set_cons_succ]
                    ((with_reducible refine wpMix_take (v := ?_) ?_ ?_ ?_); rotate_left; (focus kernel_rfl); (focus (intro wS hwS; (try dsimp only at hwS); go_simp; try with_reducible rfl)))
                    try simp only [Act.put, List.setIfInBounds_toArray, List.set_cons_zero, List.set_cons_succ]
                    ((with_reducible refine wpMix_take (v := ?_) ?_ ?_ ?_); rotate_left; (focus kernel_rfl); (focus (intro wS hwS; (try dsimp only at hwS); go_simp; try with_reducible rfl)))
                    try simp only [Act.put, List.setIfInBounds_toArray, List.set_cons_zero, List.set_cons_succ]
                    ((with_reducible refine wpMix_carry ?_ (fun K hK => ?_)); (focus kernel_rfl))
                    go_simp
                    refine (HU2.out _ (HS0.out (nq + 1))).mono ?_
                    rintro e w6 ⟨rfl, hb6⟩
                    refine hK _ _ (⟨cell_below hb6 hcn1, cell_below hb6 hcmn1⟩) ?_
                    clear hK K
                    try simp only [Act.put, List.setIfInBounds_toArray, List.set_cons_zero, List.set_cons_succ]
                    ((with_reducible refine wpMix_take (v := ?_) ?_ ?_ ?_); rotate_left; (focus kernel_rfl); (focus (intro wS hwS; (try dsimp only at hwS); go_simp; try with_reducible rfl)))
                    try simp only [Act.put, List.setIfInBounds_toArray, List.set_cons_zero, List.set_cons_succ]
                    ((with_reducible refine wpMix_take (v := ?_) ?_ ?_ ?_); rotate_left; (focus kernel_rfl); (focus (intro wS hwS; (try dsimp only at hwS); go_simp; try with_reducible rfl)))
                    try simp only [Act.put, List.setIfInBounds_toArray, List.set_cons_zero, List.set_cons_succ]
                    ((with_reducible refine wpMix_take (v := ?_) ?_ ?_ ?_); rotate_left; (focus kernel_rfl); (focus (intro wS hwS; (try dsimp only at hwS); go_simp; try with_reducible rfl)))
                    try simp only [Act.put, List.setIfInBounds_toArray, List.set_cons_zero, List.set_cons_succ]
                    ((with_reducible refine wpMix_take (v := ?_) ?_ ?_ ?_); rotate_left; (focus kernel_rfl); (focus (intro wS hwS; (try dsimp only at hwS); go_simp; try with_reducible rfl)))
                    try simp only [Act.put, List.setIfInBounds_toArray, List.set_cons_zero, List.set_cons_succ]
                    ((with_reducible refine wpMix_take (v := ?_) ?_ ?_ ?_); rotate_left; (focus kernel_rfl); (focus (intro wS hwS; (try dsimp only at hwS); go_simp; try with_reducible rfl)))
                    try simp only [Act.put, List.setIfInBounds_toArray, List.set_cons_zero, List.set_cons_succ]
                    ((with_reducible refine wpMix_take (v := ?_) ?_ ?_ ?_); rotate_left; (focus kernel_rfl); (focus (intro wS hwS; (try dsimp only at hwS); go_simp; try with_reducible rfl)))
                    try simp only [Act.put, List.setIfInBounds_toArray, List.set_cons_zero, List.set_cons_succ]
                    ((with_reducible refine wpMix_take (v := ?_) ?_ ?_ ?_); rotate_left; (focus kernel_rfl); (focus (intro wS hwS; (try dsimp only at hwS); go_simp; try with_reducible rfl)))
                    try simp only [Act.put, List.setIfInBounds_toArray, List.set_cons_zero, List.set_cons_succ]
                    ((with_reducible refine wpMix_take (v := ?_) ?_ ?_ ?_); rotate_left; (focus kernel_rfl); (focus (intro wS hwS; (try dsimp only at hwS); go_simp; try with_reducible rfl)))
                    try simp only [Act.put, List.setIfInBounds_toArray, List.set_cons_zero, List.set_cons_succ]
                    ((with_reducible refine wpMix_take (v := ?_) ?_ ?_ ?_); rotate_left; (focus kernel_rfl); (focus (intro wS hwS; (try dsimp only at hwS); go_simp; try with_reducible rfl)))
                    try simp only [Act.put, List.setIfInBounds_toArray, List.set_cons_zero, List.set_cons_succ]
                    ((with_reducible refine wpMix_take (v := ?_) ?_ ?_ ?_); rotate_left; (focus kernel_rfl); (focus (intro wS hwS; (try dsimp only at hwS); go_simp; try with_reducible rfl)))
                    try simp only [Act.put, List.setIfInBounds_toArray, List.set_cons_zero, List.set_cons_succ]
                    ((with_reducible refine wpMix_take (v := ?_) ?_ ?_ ?_); rotate_left; (focus kernel_rfl); (focus (intro wS hwS; (try dsimp only at hwS); go_simp; try with_reducible rfl)))
                    try simp only [Act.put, List.setIfInBounds_toArray, List.set_cons_zero, List.set_cons_succ]
                    ((with_reducible refine wpMix_take (v := ?_) ?_ ?_ ?_); rotate_left; (focus kernel_rfl); (focus (intro wS hwS; (try dsimp only at hwS); go_simp; try with_reducible rfl)))
                    try simp only [Act.put, List.setIfInBounds_toArray, List.set_cons_zero, List.set_cons_succ]
                    ((with_reducible refine wpMix_take (v := ?_) ?_ ?_ ?_); rotate_left; (focus kernel_rfl); (focus (intro wS hwS; (try dsimp only at hwS); go_simp; try with_reducible rfl)))
                    try simp only [Act.put, List.setIfInBounds_toArray, List.set_cons_zero, List.set_cons_succ]
                    ((with_reducible refine wpMix_take (v := ?_) ?_ ?_ ?_); rotate_left; (focus kernel_rfl); (focus (intro wS hwS; (try dsimp only at hwS); go_simp; try with_reducible rfl)))
                    try simp only [Act.put, List.setIfInBounds_toArray, List.set_cons_zero, List.set_cons_succ]
                    ((with_reducible refine wpMix_take (v := ?_) ?_ ?_ ?_); rotate_left; (focus kernel_rfl); (focus (intro wS hwS; (try dsimp only at hwS); go_simp; try with_reducible rfl)))
                    try simp only [Act.put, List.setIfInBounds_toArray, List.set_cons_zero, List.set_cons_succ]
                    ((with_reducible refine wpMix_take (v := ?_) ?_ ?_ ?_); rotate_left; (focus kernel_rfl); (focus (intro wS hwS; (try dsimp only at hwS); go_simp; try with_reducible rfl)))
                    try simp only [Act.put, List.setIfInBounds_toArray, List.set_cons_zero, List.set_cons_succ]
                    ((with_reducible refine wpMix_take (v := ?_) ?_ ?_ ?_); rotate_left; (focus kernel_rfl); (focus (intro wS hwS; (try dsimp only at hwS); go_simp; try with_reducible rfl)))
                    try simp only [Act.put, List.setIfInBounds_toArray, List.set_cons_zero, List.set_cons_succ]
                    refine wpMix_nil ?_
                    have hbe : Below w.heap.size w w6 := bt (below_drewN (bt hb24 hbn) (nq + 1)) hb6
                    have hSe := hSo4.below (bt (below_drewN hbn (nq + 1)) hb6)
                    have hc6 : w6.cell? ⟨b, o + k, none⟩ = some (encStr l[k]) := cell_below hb6 hcn1
                    go_wp2
                    have hs1 := slice_from (P := Tryz.prog) Tryz.underlying22 (show (Tryz.prog.info? 9).map (·.size) = some 1 by kernel_rfl) (some ⟨bq, oq, none⟩) out.length c m hmo
                    have hs2 := slice_to (P := Tryz.prog) Tryz.underlying22 (show (Tryz.prog.info? 9).map (·.size) = some 1 by kernel_rfl) (some ⟨bq, oq, none⟩) out.length c m (by omega)
                    have hcut := at_cut (strsV_at hSe) out.length 1 m c (by simp) hmo hoc
                    have htk : At w6 (some ⟨bq, oq, none⟩) ((out.map encStr).take m) := (strsV_at hSe).take m
                    obtain ⟨A1, hA1⟩ : ∃ A1 : Option Addr, A1 = (if c = m then ((some ⟨bq, oq, none⟩) : Option Addr) else Option.map (fun x : Addr => x.add (m * 1)) ((some ⟨bq, oq, none⟩) : Option Addr)) := ⟨_, rfl⟩
                    rw [← hA1] at hs1 hcut
                    clear hA1
                    have hblt : b < w6.heap.size := World.block_lt_of_cell? w6 _ hc6
                    refine wp_region_mix (fun w' => w'.cell? ⟨b, o + k, none⟩ = some (encStr l[k])) [(0, false), (1, false), (2, false), (3, false), (5, false), (6, false), (7, false), (4, true), (8, true), (9, false)] (by kernel_rfl) (by kernel_rfl) (by decide +kernel) rfl (fun d _ _ _ _ h => by cases d <;> exact h) (hc6) ?_
                    simp only [List.map_cons, List.map_nil, List.getElem?_toArray, List.getElem?_cons_zero, List.getElem?_cons_succ]
                    ((with_reducible refine wpMix_take (v := ?_) ?_ ?_ ?_); rotate_left; (focus kernel_rfl); (focus (intro wS hwS; (try dsimp only at hwS); go_simp; try with_reducible rfl)))
                    try simp only [Act.put, List.setIfInBounds_toArray, List.set_cons_zero, List.set_cons_succ]
                    ((with_reducible refine wpMix_take (v := ?_) ?_ ?_ ?_); rotate_left; (focus kernel_rfl); (focus (intro wS hwS; (try dsimp only at hwS); go_simp; try with_reducible rfl)))
                    try simp only [Act.put, List.setIfInBounds_toArray, List.set_cons_zero, List.set_cons_succ]
                    ((with_reducible refine wpMix_take (v := ?_) ?_ ?_ ?_); rotate_left; (focus kernel_rfl); (focus (intro wS hwS; (try dsimp only at hwS); go_simp; try with_reducible rfl)))
                    try simp only [Act.put, List.setIfInBounds_toArray, List.set_cons_zero, List.set_cons_succ]
                    ((with_reducible refine wpMix_take (v := ?_) ?_ ?_ ?_); rotate_left; (focus kernel_rfl); (focus (intro wS hwS; (try dsimp only at hwS); go_simp; try with_reducible rfl)))
                    try simp only [Act.put, List.setIfInBounds_toArray, List.set_cons_zero, List.set_cons_succ]
                    ((with_reducible refine wpMix_take (v := ?_) ?_ ?_ ?_); rotate_left; (focus kernel_rfl); (focus (intro wS hwS; (try dsimp only at hwS); go_simp; try with_reducible rfl)))
                    try simp only [Act.put, List.setIfInBounds_toArray, List.set_cons_zero, List.set_cons_succ]
                    ((with_reducible refine wpMix_take (v := ?_) ?_ ?_ ?_); rotate_left; (focus kernel_rfl); (focus (intro wS hwS; (try dsimp only at hwS); go_simp; try with_reducible rfl)))
                    try simp only [Act.put, List.setIfInBounds_toArray, List.set_cons_zero, List.set_cons_succ]
                    ((with_reducible refine wpMix_take (v := ?_) ?_ ?_ ?_); rotate_left; (focus kernel_rfl); (focus (intro wS hwS; (try dsimp only at hwS); go_simp; try with_reducible rfl)))
                    try simp only [Act.put, List.setIfInBounds_toArray, List.set_cons_zero, List.set_cons_succ]
                    ((with_reducible refine wpMix_carry ?_ (fun K hK => ?_)); (focus kernel_rfl))
                    go_simp
                    refine hK _ _ (cell_below (bal w6.drew _) hc6) ?_
                    clear hK K
                    try simp only [Act.put, List.setIfInBounds_toArray, List.set_cons_zero, List.set_cons_succ]
                    ((with_reducible refine wpMix_carry ?_ (fun K hK => ?_)); (focus kernel_rfl))
                    refine append_wp _ (.tmp 65) (.tmp 68) 22 rfl w6.heap.size 9 i0 (.string ByteArray.empty) 1 16 Tryz.underlying22 hi hz0 hz1 hz2 rfl (by decide) _ 1 [encStr l[k]] rfl (own_lit w6.drew 9 1 1 #[encStr l[k]] rfl (by decide)) A1 (out.length - m) (c - m) ((out.map encStr).drop (m * 1)) rfl (by simp) (hcut.below (below_drew (bal w6 _))) (fun u hu => one_str out u (List.mem_of_mem_drop hu)) (by unfold maxLen; omega) (by omega) (by simp) ?_
                    intro v7 w7 hown7 hgrow7 hat7
                    refine hK _ _ (hgrow7.cell (cell_below (bal w6.drew _) hc6) (fun e => absurd (Option.some.inj e) (Nat.ne_of_lt hblt))) ?_
                    clear hK K
                    try simp only [Act.put, List.setIfInBounds_toArray, List.set_cons_zero, List.set_cons_succ]
                    ((with_reducible refine wpMix_take (v := ?_) ?_ ?_ ?_); rotate_left; (focus kernel_rfl); (focus (intro wS hwS; (try dsimp only at hwS); go_simp; try with_reducible rfl)))
                    try simp only [Act.put, List.setIfInBounds_toArray, List.set_cons_zero, List.set_cons_succ]
                    refine wpMix_nil ?_
                    have hb67 : Below w6.heap.size w6 w7 := below_grown (below_drew (bal w6 (.cells #[encStr l[k]] 9))) hgrow7 (fun q e => Nat.le_of_eq (Option.some.inj e))
                    obtain ⟨A7, c7, rfl, hn7, hc7, hAt7⟩ := own_form hown7
                    clear hcut hs1 hgrow7 hat7
                    go_wp2_with (first
                      | (at_builtin; refine append_list _ rfl (.tmp 70) (.tmp 73) 22 rfl w7.heap.size 9 i0 (.string ByteArray.empty) 1 16 Tryz.underlying22 hi hz0 hz1 hz2 rfl (by decide) _ 0 [] rfl (own_lit w7 9 1 0 #[] rfl (by decide)) (some ⟨bq, oq, none⟩) m c ((out.map encStr).take m) rfl (by simp; omega) ((htk.below hb67).below (bal w7 _)) (fun u hu => one_str out u (List.mem_of_mem_take hu)) (by unfold maxLen; omega) (by omega) (by simp) ?_; intro v8 w8 hown8 hgrow8 hat8; have hb78 : Below w7.heap.size w7 w8 := below_grown (bal w7 (.cells #[] 9)) hgrow8 (fun q e => Nat.le_of_eq (Option.some.inj e)))
                      | (at_builtin; refine append_list _ rfl (.tmp 74) (.tmp 75) 22 rfl w7.heap.size 9 i0 (.string ByteArray.empty) 1 16 Tryz.underlying22 hi hz0 hz1 hz2 rfl (by decide) v8 (0 + m) ([] ++ (out.map encStr).take m) rfl hown8 A7 (1 + (out.length - m)) c7 ([encStr l[k]] ++ (out.map encStr).drop (m * 1)) rfl (by simp; omega) (hAt7.below hb78) (fun u hu => by rcases List.mem_append.1 hu with h | h; (obtain rfl := List.mem_singleton.1 h; rfl); exact one_str out u (List.mem_of_mem_drop h)) (by unfold maxLen; omega) (by omega) hb78.size ?_; intro v9 w9 hown9 hgrow9 hat9))
                    have HOWN : w9.ownsRow w7.heap.size 9 1 v9 (insAt m l[k] out).length ((insAt m l[k] out).map encStr) := by
                      have e1 : 0 + m + (1 + (out.length - m)) = (insAt m l[k] out).length := by rw [insAt_length hmo]; omega
                      have e2 : [] ++ (out.map encStr).take m ++ ([encStr l[k]] ++ (out.map encStr).drop (m * 1)) = (insAt m l[k] out).map encStr := by simp [insAt]
                      rw [← e1, ← e2]; exact hown9
                    have hb79 : Below w7.heap.size w7 w9 := below_grown hb78 hgrow9 (fun q e => (hown8.lt q e).1)
                    have hil : (insAt m l[k] out).length ≤ k + 1 := by rw [insAt_length hmo]; omega
                    obtain ⟨A9, c9, rfl, hn9, hc9, hAt9⟩ := own_form HOWN
                    unfold maxLen at hc9
                    go_roundw
                    case rel => exact ⟨k + 1, A9, insAt m l[k] out, c9, rfl, by go_num, by omega, hil, hn9, by omega, strsV_of_at (by omega) hAt9, bt hbe (bt hb67 hb79), hnext⟩
                    case measure => simp [intOf]; omega
                  · have hml' : decide ((m : Int) < (out.length : Int)) = false := by rw [decide_eq_false_iff_not]; omega
                    clear hd
                    refine wp_region_mix (fun w' => w'.cell? ⟨b, o + k, none⟩ = some (encStr l[k])) [(0, false), (1, false), (2, false), (3, false), (4, false), (5, true), (6, false), (7, false), (8, false), (9, false), (10, false), (11, false), (12, false), (13, false), (14, false), (15, false), (16, false), (17, false), (18, false), (19, false), (20, false), (21, false), (22, false)] (by kernel_rfl) (by kernel_rfl) (by decide +kernel) rfl (fun d _ _ _ _ h => by cases d <;> exact h) (hcn1) ?_
                    simp only [List.map_cons, List.map_nil, List.getElem?_toArray, List.getElem?_cons_zero, List.getElem?_cons_succ]
                    ((with_reducible refine wpMix_take (v := ?_) ?_ ?_ ?_); rotate_left; (focus kernel_rfl); (focus (intro wS hwS; (try dsimp only at hwS); go_simp; try with_reducible rfl)))
                    try simp only [Act.put, List.setIfInBounds_toArray, List.set_cons_zero, List.set_cons_succ]
                    ((with_reducible refine wpMix_take (v := ?_) ?_ ?_ ?_); rotate_left; (focus kernel_rfl); (focus (intro wS hwS; (try dsimp only at hwS); go_simp; try with_reducible rfl)))
                    try simp only [Act.put, List.setIfInBounds_toArray, List.set_cons_zero, List.set_cons_succ]
                    ((with_reducible refine wpMix_take (v := ?_) ?_ ?_ ?_); rotate_left; (focus kernel_rfl); (focus (intro wS hwS; (try dsimp only at hwS); go_simp; try with_reducible rfl)))
                    try simp only [Act.put, List.setIfInBounds_toArray, List.set_cons_zero, List.set_cons_succ]
                    ((with_reducible refine wpMix_take (v := ?_) ?_ ?_ ?_); rotate_left; (focus kernel_rfl); (focus (intro wS hwS; (try dsimp only at hwS); go_simp; try with_reducible rfl)))
                    try simp only [Act.put, List.setIfInBounds_toArray, List.set_cons_zero, List.set_cons_succ]
                    ((with_reducible refine wpMix_take (v := ?_) ?_ ?_ ?_); rotate_left; (focus kernel_rfl); (focus (intro wS hwS; (try dsimp only at hwS); go_simp; try with_reducible rfl)))
                    try simp only [Act.put, List.setIfInBounds_toArray, List.set_cons_zero, List.set_cons_succ]
                    ((with_reducible refine wpMix_carry ?_ (fun K hK => ?_)); (focus kernel_rfl))
                    go_simp
                    refine (HU2.out _ (HS0.out (nq + 1))).mono ?_
                    rintro e w6 ⟨rfl, hb6⟩
                    refine hK _ _ (cell_below hb6 hcn1) ?_
                    clear hK K
                    try simp only [Act.put, List.setIfInBounds_toArray, List.set_cons_zero, List.set_cons_succ]
                    ((with_reducible refine wpMix_take (v := ?_) ?_ ?_ ?_); rotate_left; (focus kernel_rfl); (focus (intro wS hwS; (try dsimp only at hwS); go_simp; try with_reducible rfl)))
                    try simp only [Act.put, List.setIfInBounds_toArray, List.set_cons_zero, List.set_cons_succ]
                    ((with_reducible refine wpMix_take (v := ?_) ?_ ?_ ?_); rotate_left; (focus kernel_rfl); (focus (intro wS hwS; (try dsimp only at hwS); go_simp; try with_reducible rfl)))
                    try simp only [Act.put, List.setIfInBounds_toArray, List.set_cons_zero, List.set_cons_succ]
                    ((with_reducible refine wpMix_take (v := ?_) ?_ ?_ ?_); rotate_left; (focus kernel_rfl); (focus (intro wS hwS; (try dsimp only at hwS); go_simp; try with_reducible rfl)))
                    try simp only [Act.put, List.setIfInBounds_toArray, List.set_cons_zero, List.set_cons_succ]
                    ((with_reducible refine wpMix_take (v := ?_) ?_ ?_ ?_); rotate_left; (focus kernel_rfl); (focus (intro wS hwS; (try dsimp only at hwS); go_simp; try with_reducible rfl)))
                    try simp only [Act.put, List.setIfInBounds_toArray, List.set_cons_zero, List.set_cons_succ]
                    ((with_reducible refine wpMix_take (v := ?_) ?_ ?_ ?_); rotate_left; (focus kernel_rfl); (focus (intro wS hwS; (try dsimp only at hwS); go_simp; try with_reducible rfl)))
                    try simp only [Act.put, List.setIfInBounds_toArray, List.set_cons_zero, List.set_cons_succ]
                    ((with_reducible refine wpMix_take (v := ?_) ?_ ?_ ?_); rotate_left; (focus kernel_rfl); (focus (intro wS hwS; (try dsimp only at hwS); go_simp; try with_reducible rfl)))
                    try simp only [Act.put, List.setIfInBounds_toArray, List.set_cons_zero, List.set_cons_succ]
                    ((with_reducible refine wpMix_skip ?_ ?_); (focus kernel_rfl))
                    ((with_reducible refine wpMix_skip ?_ ?_); (focus kernel_rfl))
                    ((with_reducible refine wpMix_skip ?_ ?_); (focus kernel_rfl))
                    ((with_reducible refine wpMix_skip ?_ ?_); (focus kernel_rfl))
                    ((with_reducible refine wpMix_skip ?_ ?_); (focus kernel_rfl))
                    ((with_reducible refine wpMix_skip ?_ ?_); (focus kernel_rfl))
                    ((with_reducible refine wpMix_skip ?_ ?_); (focus kernel_rfl))
                    ((with_reducible refine wpMix_skip ?_ ?_); (focus kernel_rfl))
                    ((with_reducible refine wpMix_skip ?_ ?_); (focus kernel_rfl))
                    try simp only [Act.put, List.setIfInBounds_toArray, List.set_cons_zero, List.set_cons_succ]
                    ((with_reducible refine wpMix_take (v := ?_) ?_ ?_ ?_); rotate_left; (focus kernel_rfl); (focus (intro wS hwS; (try dsimp only at hwS); go_simp; try with_reducible rfl)))
                    try simp only [Act.put, List.setIfInBounds_toArray, List.set_cons_zero, List.set_cons_succ]
                    ((with_reducible refine wpMix_take (v := ?_) ?_ ?_ ?_); rotate_left; (focus kernel_rfl); (focus (intro wS hwS; (try dsimp only at hwS); go_simp; try with_reducible rfl)))
                    try simp only [Act.put, List.setIfInBounds_toArray, List.set_cons_zero, List.set_cons_succ]
                    refine wpMix_nil ?_
                    have hbe : Below w.heap.size w w6 := bt (below_drewN (bt hb24 hbn) (nq + 1)) hb6
                    have hSe := hSo4.below (bt (below_drewN hbn (nq + 1)) hb6)
                    have hc6 : w6.cell? ⟨b, o + k, none⟩ = some (encStr l[k]) := cell_below hb6 hcn1
                    go_wp2
                    have hs1 := slice_from (P := Tryz.prog) Tryz.underlying22 (show (Tryz.prog.info? 9).map (·.size) = some 1 by kernel_rfl) A out.length c m hmo
                    have hs2 := slice_to (P := Tryz.prog) Tryz.underlying22 (show (Tryz.prog.info? 9).map (·.size) = some 1 by kernel_rfl) A out.length c m (by omega)
                    have hcut := at_cut (strsV_at hSe) out.length 1 m c (by simp) hmo hoc
                    have htk : At w6 A ((out.map encStr).take m) := (strsV_at hSe).take m
                    obtain ⟨A1, hA1⟩ : ∃ A1 : Option Addr, A1 = (if c = m then (A : Option Addr) else Option.map (fun x : Addr => x.add (m * 1)) (A : Option Addr)) := ⟨_, rfl⟩
                    rw [← hA1] at hs1 hcut
                    clear hA1
                    have hblt : b < w6.heap.size := World.block_lt_of_cell? w6 _ hc6
                    refine wp_region_mix (fun w' => w'.cell? ⟨b, o + k, none⟩ = some (encStr l[k])) [(0, false), (1, false), (2, false), (3, false), (5, false), (6, false), (7, false), (4, true), (8, true), (9, false)] (by kernel_rfl) (by kernel_rfl) (by decide +kernel) rfl (fun d _ _ _ _ h => by cases d <;> exact h) (hc6) ?_
                    simp only [List.map_cons, List.map_nil, List.getElem?_toArray, List.getElem?_cons_zero, List.getElem?_cons_succ]
                    ((with_reducible refine wpMix_take (v := ?_) ?_ ?_ ?_); rotate_left; (focus kernel_rfl); (focus (intro wS hwS; (try dsimp only at hwS); go_simp; try with_reducible rfl)))
                    try simp only [Act.put, List.setIfInBounds_toArray, List.set_cons_zero, List.set_cons_succ]
                    ((with_reducible refine wpMix_take (v := ?_) ?_ ?_ ?_); rotate_left; (focus kernel_rfl); (focus (intro wS hwS; (try dsimp only at hwS); go_simp; try with_reducible rfl)))
                    try simp only [Act.put, List.setIfInBounds_toArray, List.set_cons_zero, List.set_cons_succ]
                    ((with_reducible refine wpMix_take (v := ?_) ?_ ?_ ?_); rotate_left; (focus kernel_rfl); (focus (intro wS hwS; (try dsimp only at hwS); go_simp; try with_reducible rfl)))
                    try simp only [Act.put, List.setIfInBounds_toArray, List.set_cons_zero, List.set_cons_succ]
                    ((with_reducible refine wpMix_take (v := ?_) ?_ ?_ ?_); rotate_left; (focus kernel_rfl); (focus (intro wS hwS; (try dsimp only at hwS); go_simp; try with_reducible rfl)))
                    try simp only [Act.put, List.setIfInBounds_toArray, List.set_cons_zero, List.set_cons_succ]
                    ((with_reducible refine wpMix_take (v := ?_) ?_ ?_ ?_); rotate_left; (focus kernel_rfl); (focus (intro wS hwS; (try dsimp only at hwS); go_simp; try with_reducible rfl)))
                    try simp only [Act.put, List.setIfInBounds_toArray, List.set_cons_zero, List.set_cons_succ]
                    ((with_reducible refine wpMix_take (v := ?_) ?_ ?_ ?_); rotate_left; (focus kernel_rfl); (focus (intro wS hwS; (try dsimp only at hwS); go_simp; try with_reducible rfl)))
                    try simp only [Act.put, List.setIfInBounds_toArray, List.set_cons_zero, List.set_cons_succ]
                    ((with_reducible refine wpMix_take (v := ?_) ?_ ?_ ?_); rotate_left; (focus kernel_rfl); (focus (intro wS hwS; (try dsimp only at hwS); go_simp; try with_reducible rfl)))
                    try simp only [Act.put, List.setIfInBounds_toArray, List.set_cons_zero, List.set_cons_succ]
                    ((with_reducible refine wpMix_carry ?_ (fun K hK => ?_)); (focus kernel_rfl))
                    go_simp
                    refine hK _ _ (cell_below (bal w6.drew _) hc6) ?_
                    clear hK K
                    try simp only [Act.put, List.setIfInBounds_toArray, List.set_cons_zero, List.set_cons_succ]
                    ((with_reducible refine wpMix_carry ?_ (fun K hK => ?_)); (focus kernel_rfl))
                    refine append_wp _ (.tmp 65) (.tmp 68) 22 rfl w6.heap.size 9 i0 (.string ByteArray.empty) 1 16 Tryz.underlying22 hi hz0 hz1 hz2 rfl (by decide) _ 1 [encStr l[k]] rfl (own_lit w6.drew 9 1 1 #[encStr l[k]] rfl (by decide)) A1 (out.length - m) (c - m) ((out.map encStr).drop (m * 1)) rfl (by simp) (hcut.below (below_drew (bal w6 _))) (fun u hu => one_str out u (List.mem_of_mem_drop hu)) (by unfold maxLen; omega) (by omega) (by simp) ?_
                    intro v7 w7 hown7 hgrow7 hat7
                    refine hK _ _ (hgrow7.cell (cell_below (bal w6.drew _) hc6) (fun e => absurd (Option.some.inj e) (Nat.ne_of_lt hblt))) ?_
                    clear hK K
                    try simp only [Act.put, List.setIfInBounds_toArray, List.set_cons_zero, List.set_cons_succ]
                    ((with_reducible refine wpMix_take (v := ?_) ?_ ?_ ?_); rotate_left; (focus kernel_rfl); (focus (intro wS hwS; (try dsimp only at hwS); go_simp; try with_reducible rfl)))
                    try simp only [Act.put, List.setIfInBounds_toArray, List.set_cons_zero, List.set_cons_succ]
                    refine wpMix_nil ?_
                    have hb67 : Below w6.heap.size w6 w7 := below_grown (below_drew (bal w6 (.cells #[encStr l[k]] 9))) hgrow7 (fun q e => Nat.le_of_eq (Option.some.inj e))
                    obtain ⟨A7, c7, rfl, hn7, hc7, hAt7⟩ := own_form hown7
                    clear hcut hs1 hgrow7 hat7
                    go_wp2_with (first
                      | (at_builtin; refine append_list _ rfl (.tmp 70) (.tmp 73) 22 rfl w7.heap.size 9 i0 (.string ByteArray.empty) 1 16 Tryz.underlying22 hi hz0 hz1 hz2 rfl (by decide) _ 0 [] rfl (own_lit w7 9 1 0 #[] rfl (by decide)) A m c ((out.map encStr).take m) rfl (by simp; omega) ((htk.below hb67).below (bal w7 _)) (fun u hu => one_str out u (List.mem_of_mem_take hu)) (by unfold maxLen; omega) (by omega) (by simp) ?_; intro v8 w8 hown8 hgrow8 hat8; have hb78 : Below w7.heap.size w7 w8 := below_grown (bal w7 (.cells #[] 9)) hgrow8 (fun q e => Nat.le_of_eq (Option.some.inj e)))
                      | (at_builtin; refine append_list _ rfl (.tmp 74) (.tmp 75) 22 rfl w7.heap.size 9 i0 (.string ByteArray.empty) 1 16 Tryz.underlying22 hi hz0 hz1 hz2 rfl (by decide) v8 (0 + m) ([] ++ (out.map encStr).take m) rfl hown8 A7 (1 + (out.length - m)) c7 ([encStr l[k]] ++ (out.map encStr).drop (m * 1)) rfl (by simp; omega) (hAt7.below hb78) (fun u hu => by rcases List.mem_append.1 hu with h | h; (obtain rfl := List.mem_singleton.1 h; rfl); exact one_str out u (List.mem_of_mem_drop h)) (by unfold maxLen; omega) (by omega) hb78.size ?_; intro v9 w9 hown9 hgrow9 hat9))
                    have HOWN : w9.ownsRow w7.heap.size 9 1 v9 (insAt m l[k] out).length ((insAt m l[k] out).map encStr) := by
                      have e1 : 0 + m + (1 + (out.length - m)) = (insAt m l[k] out).length := by rw [insAt_length hmo]; omega
                      have e2 : [] ++ (out.map encStr).take m ++ ([encStr l[k]] ++ (out.map encStr).drop (m * 1)) = (insAt m l[k] out).map encStr := by simp [insAt]
                      rw [← e1, ← e2]; exact hown9
                    have hb79 : Below w7.heap.size w7 w9 := below_grown hb78 hgrow9 (fun q e => (hown8.lt q e).1)
                    have hil : (insAt m l[k] out).length ≤ k + 1 := by rw [insAt_length hmo]; omega
                    obtain ⟨A9, c9, rfl, hn9, hc9, hAt9⟩ := own_form HOWN
                    unfold maxLen at hc9
                    go_roundw
                    case rel => exact ⟨k + 1, A9, insAt m l[k] out, c9, rfl, by go_num, by omega, hil, hn9, by omega, strsV_of_at (by omega) hAt9, bt hbe (bt hb67 hb79), hnext⟩
                    case measure => simp [intOf]; omega
    · have hfull : Hid (cleanL l = if 8 < out.length then ([], 4) else (out, 0)) := Lib.hid (by
        have hkl : k = l.length := by omega
        have := hinv.out
        rw [hkl] at this
        exact this.done)
      by_cases h8 : 8 < out.length
      · go_wp2
        go_ret2
        exact CleanPost.bad (by rw [hfull.out, if_pos h8]) hb
      · go_wp2
        go_ret2
        exact ⟨A, c, by rw [hfull.out, if_neg h8]; rfl, by rw [hfull.out, if_neg h8]; exact hSo, hb⟩
end Go.Proofs.YtfofjblkondnbaaGreatDoor.Ch

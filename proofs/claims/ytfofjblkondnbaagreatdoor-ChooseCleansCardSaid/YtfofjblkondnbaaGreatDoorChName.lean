/- The walks of event.letter and event.Name. -/
import Derived.Test.YtfofjblkondnbaaGreatDoorShelf
import Derived.Test.YtfofjblkondnbaaGreatDoorChPlain
import Derived.Test.YtfofjblkondnbaaGreatDoorChBase
namespace Go.Proofs.YtfofjblkondnbaaGreatDoor.Ch
open Go.RowKit

def letterB (c : Int) : Bool := decide (97 ≤ c) && decide (c ≤ 122) || decide (65 ≤ c) && decide (c ≤ 90)

set_option maxHeartbeats 400000 in
set_option maxRecDepth 100000 in
theorem letter_any (c : Int) (w : World) :
    Calls Tryz.prog 209 #[.int .i32 c] w fun e w' => e = .returned (.bool (letterB c)) ∧ w = w' := by
  go_enter Tryz.func209, Tryz.ntmps209
  go_wp2
  all_goals go_ret
  all_goals exact ⟨ret_bool (by rw [Bool.eq_iff_iff]; simp [letterB]; omega), rfl⟩

theorem dec_ascii3 (pos : Nat) (h : pos < 3) : ∃ c : Nat, Utf8.decode ⟨#[46, 95, 45]⟩ pos = (c, 1) ∧ c < 128 := by
  match pos, h with
  | 0, _ => exact ⟨46, by decide, by decide⟩
  | 1, _ => exact ⟨95, by decide, by decide⟩
  | 2, _ => exact ⟨45, by decide, by decide⟩

set_option maxHeartbeats 400000 in
set_option maxRecDepth 100000 in
theorem indexRune_error (w : World) :
    Calls Tryz.prog 261 #[.string ⟨#[46, 95, 45]⟩, .int .i32 65533] w fun e w' => e = .returned (.int .i64 (-1)) ∧ Below w.heap.size w w' := by
  go_enter Tryz.func261, Tryz.ntmps261
  go_wp2
  go_loopw [5, 6] (fun _ _ wr => ∃ pos : Nat, pos ≤ 3 ∧ wr.heap[w.heap.size]? = some (.stringIter ⟨#[46, 95, 45]⟩ pos) ∧ Below w.heap.size w wr) (fun _ _ wr => 3 - wr.iterPos w.heap.size)
  case atStart =>
    refine ⟨0, by omega, World.iter_heap w _ 0, (Below.refl _ w).alloc (Nat.le_refl _) _⟩
  case round =>
    obtain ⟨pos, hp3, hit, hb⟩ := hrel
    by_cases hp : pos < 3
    · have hnx : ∀ ty, (Instr.next (.pointer (some ⟨w.heap.size, 0, none⟩)) true ty).run Tryz.prog wr = _ := fun ty => Lib.run_next_any_at wr w.heap.size ⟨#[46, 95, 45]⟩ pos ty hit hp
      obtain ⟨c, hc, hc1⟩ := dec_ascii3 pos hp
      simp only [hc] at hnx
      have hne : ((c : Int) == 65533) = false := by rw [beq_eq_false_iff_ne]; omega
      have hit2 := Lib.iterAt_heap wr w.heap.size ⟨#[46, 95, 45]⟩ pos (pos + 1) hit
      have hb2 := Lib.below_iterAt hb (k := w.heap.size) (by omega) ⟨#[46, 95, 45]⟩ (pos + 1)
      have HC := Lib.hid hc
      clear hc
      go_wp2
      go_roundw
      case rel => exact ⟨pos + 1, by omega, hit2, hb2⟩
      case measure => simp [World.iterPos, hit, hit2]; omega
    · have hnx : ∀ ty, (Instr.next (.pointer (some ⟨w.heap.size, 0, none⟩)) true ty).run Tryz.prog wr = _ := fun ty => Lib.run_next_end_at wr w.heap.size ⟨#[46, 95, 45]⟩ pos ty hit hp
      go_wp2
      go_ret
      exact ⟨rfl, hb⟩

set_option maxHeartbeats 400000 in
set_option maxRecDepth 100000 in
theorem indexRune_invalid (r : Int) (h0 : 128 ≤ r) (h1 : r ≤ 2147483647) (hne : (r == 65533) = false) (hv : Lib.validRune r = false) (w : World) :
    Calls Tryz.prog 261 #[.string ⟨#[46, 95, 45]⟩, .int .i32 r] w fun e w' => e = .returned (.int .i64 (-1)) ∧ Below w.heap.size w w' := by
  go_enter Tryz.func261, Tryz.ntmps261
  go_wp2_with (go_at_call 290; refine (Tryz.utf8_ValidRune _ _).mono ?_; rintro e w' ⟨rfl, rfl⟩)
  go_ret
  exact ⟨rfl, Below.refl _ _⟩

theorem idx45 (c : UInt8) (h : 128 ≤ c.toNat) : Lib.indexByte [45] c < 0 := by
  have hc : ¬ (45 : UInt8) = c := fun e => by rw [← e] at h; revert h; decide
  simp [Lib.indexByte, hc]
theorem idxnil (c : UInt8) : Lib.indexByte [] c < 0 := by simp [Lib.indexByte]

set_option maxHeartbeats 400000 in
set_option maxRecDepth 100000 in
theorem indexRune_valid2 (r : Int) (h0 : 128 ≤ r) (h1 : r ≤ 2147483647) (hne : (r == 65533) = false) (hv : Lib.validRune r = true) (a b : UInt8) (he : Utf8.encode r = ⟨#[a, b]⟩) (hb : 128 ≤ b.toNat) (w : World) :
    Calls Tryz.prog 261 #[.string ⟨#[46, 95, 45]⟩, .int .i32 r] w fun e w' => e = .returned (.int .i64 (-1)) ∧ Below w.heap.size w w' := by
  have hb1 : (((⟨#[46, 95, 45]⟩ : ByteArray)[1].toNat : Int) != (((⟨#[a, b]⟩ : ByteArray)[1]'(by show 1 < 2; omega)).toNat : Int)) = true := by
    rw [bne_iff_ne]; show ((95 : Nat) : Int) ≠ (b.toNat : Int); omega
  have hlt : Lib.indexByte [45] ((⟨#[a, b]⟩ : ByteArray)[1]'(by show 1 < 2; omega)) < 0 := idx45 b hb
  go_enter Tryz.func261, Tryz.ntmps261
  go_wp2_with (go_at_call 290; refine (Tryz.utf8_ValidRune _ _).mono ?_; rintro e w' ⟨rfl, rfl⟩)
  go_step3
  go_wp2
  refine wp_loop_rounds 1 ?_
  rw [rounds_succ]
  go_wp2
  go_step3
  go_wp2
  go_quiet (fail)
  go_wp2
  go_quiet ((go_at_call 289; exact quiet_add_same (Tryz.strings_IndexByte _ _ _)))
  go_wp2
  rw [Exit.noGoto_ret]
  go_wp2
  rw [Exit.noGoto_ret]
  go_wp2
  go_ret
  exact ⟨rfl, below_drewN (Below.refl _ _) _⟩

set_option maxHeartbeats 400000 in
set_option maxRecDepth 100000 in
theorem indexRune_valid3 (r : Int) (h0 : 128 ≤ r) (h1 : r ≤ 2147483647) (hne : (r == 65533) = false) (hv : Lib.validRune r = true) (a b c : UInt8) (he : Utf8.encode r = ⟨#[a, b, c]⟩) (hb : 128 ≤ c.toNat) (w : World) :
    Calls Tryz.prog 261 #[.string ⟨#[46, 95, 45]⟩, .int .i32 r] w fun e w' => e = .returned (.int .i64 (-1)) ∧ Below w.heap.size w w' := by
  have hb1 : (((⟨#[46, 95, 45]⟩ : ByteArray)[2].toNat : Int) != (((⟨#[a, b, c]⟩ : ByteArray)[2]'(by show 2 < 3; omega)).toNat : Int)) = true := by
    rw [bne_iff_ne]; show ((45 : Nat) : Int) ≠ (c.toNat : Int); omega
  have hlt : Lib.indexByte [] ((⟨#[a, b, c]⟩ : ByteArray)[2]'(by show 2 < 3; omega)) < 0 := idxnil c
  go_enter Tryz.func261, Tryz.ntmps261
  go_wp2_with (go_at_call 290; refine (Tryz.utf8_ValidRune _ _).mono ?_; rintro e w' ⟨rfl, rfl⟩)
  go_step3
  go_wp2
  refine wp_loop_rounds 1 ?_
  rw [rounds_succ]
  go_wp2
  go_step3
  go_wp2
  go_quiet (fail)
  go_wp2
  go_quiet ((go_at_call 289; exact quiet_add_same (Tryz.strings_IndexByte _ _ _)))
  go_wp2
  rw [Exit.noGoto_ret]
  go_wp2
  rw [Exit.noGoto_ret]
  go_wp2
  go_ret
  exact ⟨rfl, below_drewN (Below.refl _ _) _⟩

set_option maxHeartbeats 400000 in
set_option maxRecDepth 100000 in
theorem indexRune_valid4 (r : Int) (h0 : 128 ≤ r) (h1 : r ≤ 2147483647) (hne : (r == 65533) = false) (hv : Lib.validRune r = true) (a b c d : UInt8) (he : Utf8.encode r = ⟨#[a, b, c, d]⟩) (w : World) :
    Calls Tryz.prog 261 #[.string ⟨#[46, 95, 45]⟩, .int .i32 r] w fun e w' => e = .returned (.int .i64 (-1)) ∧ Below w.heap.size w w' := by
  go_enter Tryz.func261, Tryz.ntmps261
  go_wp2_with (go_at_call 290; refine (Tryz.utf8_ValidRune _ _).mono ?_; rintro e w' ⟨rfl, rfl⟩)
  go_step3
  go_wp2
  refine wp_loop_rounds 1 ?_
  rw [rounds_succ]
  go_wp2
  rw [Exit.noGoto_ret]
  go_wp2
  go_ret
  exact ⟨rfl, Below.refl _ _⟩

/-- The last byte of what a rune beyond ASCII is written by. -/
theorem encode_high (r : Int) (h0 : 128 ≤ r) :
    (∃ a b : UInt8, Utf8.encode r = ⟨#[a, b]⟩ ∧ 128 ≤ b.toNat) ∨ (∃ a b c : UInt8, Utf8.encode r = ⟨#[a, b, c]⟩ ∧ 128 ≤ c.toNat) ∨ (∃ a b c d : UInt8, Utf8.encode r = ⟨#[a, b, c, d]⟩) := by
  have key : ∀ n : Nat, 128 ≤ (UInt8.ofNat (0x80 + n % 64)).toNat := fun n => by
    rw [UInt8.toNat_ofNat']; omega
  have hc : 128 ≤ (if Utf8.valid r then r.toNat else Utf8.runeError) := by
    split
    · omega
    · decide
  unfold Utf8.encode
  dsimp only
  generalize (if Utf8.valid r then r.toNat else Utf8.runeError) = c at hc
  rw [if_neg (by omega)]
  split
  · exact .inl ⟨_, _, rfl, key _⟩
  · split
    · exact .inr (.inl ⟨_, _, _, rfl, key _⟩)
    · exact .inr (.inr ⟨_, _, _, _, rfl⟩)

theorem indexRune_high (r : Int) (h0 : 128 ≤ r) (h1 : r ≤ 2147483647) (w : World) :
    Calls Tryz.prog 261 #[.string ⟨#[46, 95, 45]⟩, .int .i32 r] w fun e w' => e = .returned (.int .i64 (-1)) ∧ Below w.heap.size w w' := by
  by_cases he : r = 65533
  · subst he; exact indexRune_error w
  · have hne : (r == 65533) = false := by rw [beq_eq_false_iff_ne]; exact he
    cases hv : Lib.validRune r with
    | false => exact indexRune_invalid r h0 h1 hne hv w
    | true =>
      rcases encode_high r h0 with ⟨a, b, h, hb⟩ | ⟨a, b, c, h, hb⟩ | ⟨a, b, c, d, h⟩
      · exact indexRune_valid2 r h0 h1 hne hv a b h hb w
      · exact indexRune_valid3 r h0 h1 hne hv a b c h hb w
      · exact indexRune_valid4 r h0 h1 hne hv a b c d h w

def markB (c : Int) : Bool := c == 46 || c == 95 || c == 45

set_option maxHeartbeats 400000 in
theorem containsRune_high (r : Int) (h0 : 128 ≤ r) (h1 : r ≤ 2147483647) (w : World) :
    Calls Tryz.prog 210 #[.string ⟨#[46, 95, 45]⟩, .int .i32 r] w fun e w' => e = .returned (.bool false) ∧ Below w.heap.size w w' := by
  go_enter Tryz.func210, Tryz.ntmps210
  go_wp2_with (go_at_call 261; refine (indexRune_high _ h0 h1 _).mono ?_; rintro e w' ⟨rfl, hb⟩)
  go_ret
  exact ⟨rfl, hb⟩

theorem mark_ascii (r : Int) (h0 : 0 ≤ r) (h1 : r < 128) : decide (0 ≤ Lib.indexByte (⟨#[46, 95, 45]⟩ : ByteArray).data.toList r.toNat.toUInt8) = markB r := by
  have key : ∀ n : Fin 128, decide (0 ≤ Lib.indexByte [46, 95, 45] n.val.toUInt8) = markB n.val := by decide
  obtain ⟨n, rfl⟩ := Int.eq_ofNat_of_zero_le h0
  exact key ⟨n, by omega⟩

theorem containsRune_any (r : Int) (h0 : 0 ≤ r) (h1 : r ≤ 2147483647) (w : World) :
    Calls Tryz.prog 210 #[.string ⟨#[46, 95, 45]⟩, .int .i32 r] w fun e w' => e = .returned (.bool (markB r)) ∧ Below w.heap.size w w' := by
  by_cases h : r < 128
  · refine (Tryz.strings_ContainsRune_ascii _ r w h0 h).mono fun e w' ⟨h1, h2⟩ => ?_
    rw [mark_ascii r h0 h] at h1
    exact ⟨h1, h2 ▸ Below.refl _ _⟩
  · have hm : markB r = false := by simp [markB]; omega
    rw [hm]
    exact containsRune_high r (by omega) h1 w

/-- A rune that may stand in a name. -/
def runeB (c : Int) : Bool := letterB c || decide (48 ≤ c) && decide (c ≤ 57) || markB c

theorem runeB_ascii (n : Nat) (h : n < 128) : runeB n = nameCh n.toUInt8 := by
  have key : ∀ n : Fin 128, runeB (n.val : Int) = nameCh n.val.toUInt8 := by decide
  exact key ⟨n, h⟩
theorem nameCh_high (c : UInt8) (h : 128 ≤ c.toNat) : nameCh c = false := by
  have h1 : ¬ c = 46 := fun e => by rw [e] at h; revert h; decide
  have h2 : ¬ c = 95 := fun e => by rw [e] at h; revert h; decide
  have h3 : ¬ c = 45 := fun e => by rw [e] at h; revert h; decide
  simp [nameCh, h1, h2, h3]; omega
theorem runeB_high (c : Int) (h : 128 ≤ c) : runeB c = false := by
  simp [runeB, letterB, markB]; omega

/-- The rune at a place tells of the byte there. -/
theorem rune_at (s : ByteArray) (pos : Nat) (h : pos < s.size) : runeB (Utf8.decode s pos).1 = nameCh s[pos] ∧ (runeB (Utf8.decode s pos).1 = true → (Utf8.decode s pos).2 = 1) := by
  by_cases ha : (s[pos]'h).toNat < 128
  · rw [decode_ascii s pos h ha]
    have := runeB_ascii _ ha
    rw [show (s[pos]'h).toNat.toUInt8 = s[pos]'h from by simp] at this
    exact ⟨this, fun _ => rfl⟩
  · have hd := decode_high s pos h (by omega)
    rw [runeB_high _ (by omega), nameCh_high _ (by omega)]
    exact ⟨rfl, fun e => by cases e⟩

theorem all_take_succ (s : ByteArray) (pos : Nat) (h : pos < s.size) : (s.data.toList.take (pos + 1)).all nameCh = ((s.data.toList.take pos).all nameCh && nameCh s[pos]) := by
  rw [List.take_succ_eq_append_getElem (by simpa using h), List.all_append]
  simp
  rfl
theorem all_false (s : ByteArray) (pos : Nat) (h : pos < s.size) (hc : nameCh s[pos] = false) : s.data.toList.all nameCh = false := by
  rw [← List.take_append_drop (pos + 1) s.data.toList, List.all_append, all_take_succ s pos h, hc]
  simp

theorem toList_data (s : ByteArray) : s.toList = s.data.toList := ByteArray.toList_eq s

theorem nameOk_bad {s : ByteArray} (h : s.size < 1 ∨ 12 < s.size ∨ s.toList = [46] ∨ s.toList = [46, 46]) : nameOk s.data.toList = false := by
  rw [toList_data] at h
  have hl : s.data.toList.length = s.size := by simp
  unfold nameOk
  rcases h with h | h | h | h
  · have : ¬ 1 ≤ s.data.toList.length := by omega
    simp only [this, decide_false, Bool.false_and]
  · have : ¬ s.data.toList.length ≤ 12 := by omega
    simp only [this, decide_false, Bool.and_false, Bool.false_and]
  · rw [h]; decide
  · rw [h]; decide
theorem nameOk_good {s : ByteArray} (h1 : 1 ≤ s.size) (h2 : s.size ≤ 12) (h3 : (s.toList == [46]) = false) (h4 : (s.toList == [46, 46]) = false) : nameOk s.data.toList = s.data.toList.all nameCh := by
  rw [toList_data] at h3 h4
  have hl : s.data.toList.length = s.size := by simp
  unfold nameOk
  simp [hl, h1, h2, bne, h3, h4]

set_option maxHeartbeats 1000000 in
set_option maxRecDepth 100000 in
theorem name_bad (s : ByteArray) (hs : s.size ≤ 9223372036854775807) (h : s.size < 1 ∨ 12 < s.size ∨ s.toList = [46] ∨ s.toList = [46, 46]) (w : World) :
    Calls Tryz.prog 155 #[.string s] w fun e w' => e = .returned (.bool (nameOk s.data.toList)) ∧ Below w.heap.size w w' := by
  rw [nameOk_bad h]
  have H := Lib.hid h
  clear h
  go_enter Tryz.func155, Tryz.ntmps155
  go_wp2
  · go_ret; exact ⟨rfl, Below.refl _ _⟩
  · go_ret; exact ⟨rfl, Below.refl _ _⟩
  · exfalso
    have h := H.out
    have h' : ((1 ≤ (s.size : Int) ∧ (s.size : Int) ≤ 12) ∧ (s.toList == [46]) = false) ∧ (s.toList == [46, 46]) = false := by assumption
    obtain ⟨⟨⟨h1, h2⟩, h3⟩, h4⟩ := h'
    rcases h with h | h | h | h
    · omega
    · omega
    · rw [h] at h3; revert h3; decide
    · rw [h] at h4; revert h4; decide
  · go_ret; exact ⟨rfl, Below.refl _ _⟩
  · go_ret; exact ⟨rfl, Below.refl _ _⟩

set_option maxHeartbeats 1000000 in
set_option maxRecDepth 100000 in
theorem name_good (s : ByteArray) (h1 : 1 ≤ s.size) (h2 : s.size ≤ 12) (h3 : (s.toList == [46]) = false) (h4 : (s.toList == [46, 46]) = false) (w : World) :
    Calls Tryz.prog 155 #[.string s] w fun e w' => e = .returned (.bool (nameOk s.data.toList)) ∧ Below w.heap.size w w' := by
  rw [nameOk_good h1 h2 h3 h4]
  have h3' : ¬ s.toList = [46] := by simpa using h3
  go_enter Tryz.func155, Tryz.ntmps155
  go_wp2
  go_loopw [2, 4] (fun _ _ wr => ∃ pos : Nat, pos ≤ s.size ∧ wr.heap[w.heap.size]? = some (.stringIter s pos) ∧ Below w.heap.size w wr ∧ Hid ((s.data.toList.take pos).all nameCh = true)) (fun _ _ wr => s.size - wr.iterPos w.heap.size)
  case atStart =>
    refine ⟨0, by omega, World.iter_heap w _ 0, (Below.refl _ w).alloc (Nat.le_refl _) _, Lib.hid (by simp)⟩
  case round =>
    obtain ⟨pos, hp3, hit, hb, hall⟩ := hrel
    by_cases hp : pos < s.size
    · have hnx : ∀ ty, (Instr.next (.pointer (some ⟨w.heap.size, 0, none⟩)) true ty).run Tryz.prog wr = _ := fun ty => Lib.run_next_any_at wr w.heap.size s pos ty hit hp
      have hR := Lib.hid (rune_at s pos hp)
      have hle := decode_le s pos
      have HT := Lib.hid (all_take_succ s pos hp)
      have HF := Lib.hid (all_false s pos hp)
      have hit2 := Lib.iterAt_heap wr w.heap.size s pos (pos + (Utf8.decode s pos).2) hit
      have hb2 := Lib.below_iterAt hb (k := w.heap.size) (by omega) s (pos + (Utf8.decode s pos).2)
      generalize Utf8.decode s pos = d at *
      obtain ⟨c, n⟩ := d
      dsimp only at *
      have hsz : w.heap.size < (wr.iterAt w.heap.size s (pos + n)).heap.size := (Array.getElem?_eq_some_iff.1 hit2).1
      have hipos : wr.iterPos w.heap.size = pos := by simp [World.iterPos, hit]
      have HP := Lib.hid hipos
      clear hipos
      have rel_of : runeB c = true → ∀ W : World, Below (wr.iterAt w.heap.size s (pos + n)).heap.size (wr.iterAt w.heap.size s (pos + n)) W →
          (∃ pos : Nat, pos ≤ s.size ∧ W.heap[w.heap.size]? = some (.stringIter s pos) ∧ Below w.heap.size w W ∧ Hid ((s.data.toList.take pos).all nameCh = true)) ∧ W.iterPos w.heap.size = pos + 1 := fun hr W hW => by
        obtain ⟨e1, e2⟩ := hR.out
        obtain rfl := e2 hr
        have hi : W.heap[w.heap.size]? = some (.stringIter s (pos + 1)) := (hW.block _ hsz).trans hit2
        exact ⟨⟨pos + 1, by omega, hi, below_then hb2 (by omega) hW, Lib.hid (by rw [HT.out, hall.out, ← e1, hr]; rfl)⟩, by simp [World.iterPos, hi]⟩
      have REL := Lib.hid rel_of
      clear rel_of
      by_cases hL : letterB c = true
      · have hr : runeB c = true := by simp [runeB, hL]
        have HR := Lib.hid hr
        clear hr
        go_wp2_with (go_at_call 209; refine (letter_any _ _).mono ?_; rintro e w' ⟨rfl, rfl⟩)
        have R := REL.out HR.out _ (Below.refl _ _)
        go_roundw
        case rel => exact R.1
        case measure => rw [R.2, HP.out]; omega
      · have hL : letterB c = false := by simpa using hL
        by_cases hD : 48 ≤ (c : Int) ∧ (c : Int) ≤ 57
        · have HR : Hid (runeB c = true) := Lib.hid (by simp [runeB, hD])
          obtain ⟨hD1, hD2⟩ := hD
          go_wp2_with (go_at_call 209; refine (letter_any _ _).mono ?_; rintro e w' ⟨rfl, rfl⟩)
          have R := REL.out HR.out _ (Below.refl _ _)
          go_roundw
          case rel => exact R.1
          case measure => rw [R.2, HP.out]; omega
        · cases hM : markB c with
          | true =>
            have HR : Hid (runeB c = true) := Lib.hid (by simp [runeB, hM])
            go_wp2_with (first | (go_at_call 209; refine (letter_any _ _).mono ?_; rintro e w' ⟨rfl, rfl⟩) | (go_at_call 210; refine (containsRune_any _ (by omega) (by omega) _).mono ?_; rintro e w2 ⟨rfl, hb3⟩))
            all_goals
              have R := REL.out HR.out _ hb3
              exact ⟨R.1, by rw [R.2, HP.out]; omega⟩
          | false =>
            have HR : Hid (nameCh s[pos] = false) := Lib.hid (by rw [← hR.out.1]; simp [runeB, hM, hL]; omega)
            go_wp2_with (first | (go_at_call 209; refine (letter_any _ _).mono ?_; rintro e w' ⟨rfl, rfl⟩) | (go_at_call 210; refine (containsRune_any _ (by omega) (by omega) _).mono ?_; rintro e w2 ⟨rfl, hb3⟩))
            all_goals
              go_ret
              exact ⟨ret_bool (HF.out HR.out).symm, below_then hb2 (by omega) hb3⟩
    · have hnx : ∀ ty, (Instr.next (.pointer (some ⟨w.heap.size, 0, none⟩)) true ty).run Tryz.prog wr = _ := fun ty => Lib.run_next_end_at wr w.heap.size s pos ty hit hp
      go_wp2
      go_ret
      have : s.data.toList.take pos = s.data.toList := List.take_of_length_le (by simp; omega)
      rw [this] at hall
      exact ⟨ret_bool hall.out.symm, hb⟩

theorem name_any (s : ByteArray) (hs : s.size ≤ 9223372036854775807) (w : World) :
    Calls Tryz.prog 155 #[.string s] w fun e w' => e = .returned (.bool (nameOk s.data.toList)) ∧ Below w.heap.size w w' := by
  by_cases h : s.size < 1 ∨ 12 < s.size ∨ s.toList = [46] ∨ s.toList = [46, 46]
  · exact name_bad s hs h w
  · simp only [not_or, Nat.not_lt] at h
    obtain ⟨h1, h2, h3, h4⟩ := h
    exact name_good s h1 h2 (by simpa using h3) (by simpa using h4) w
end Go.Proofs.YtfofjblkondnbaaGreatDoor.Ch

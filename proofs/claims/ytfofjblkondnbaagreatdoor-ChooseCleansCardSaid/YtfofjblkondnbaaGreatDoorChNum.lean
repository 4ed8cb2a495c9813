/- What the library's variables hold; strconv.FormatUint at base 10; path.digits. -/
import Derived.Test.YtfofjblkondnbaaGreatDoorShelf
import Derived.Test.YtfofjblkondnbaaGreatDoorChPlain
import Derived.Test.YtfofjblkondnbaaGreatDoorChBase
import Derived.Lib.ItoaMem
import Derived.Lib.AppendIntMem
import Derived.Lib.ParseIntBCases
namespace Go.Proofs.YtfofjblkondnbaaGreatDoor.Ch
open Go.RowKit Go.Sort

/-- What the library's variables hold. -/
structure Env (w : World) : Prop where
  len : ∃ m, w.cell? ⟨0, 0, none⟩ = some (.int .i64 m)
  syn : ∃ tp p, w.cell? ⟨3, 0, none⟩ = some (.iface tp p)
  rng : ∃ tp p, w.cell? ⟨4, 0, none⟩ = some (.iface tp p)
  pow : Lib.TabIs Tryz.prog w "internal/strconv.uint64pow10" .u64 Lib.pow10Tab

theorem Env.below {w w' : World} (h : Env w) (hb : Below w.heap.size w w') : Env w' where
  len := h.len.imp fun _ hc => cell_below hb hc
  syn := h.syn.imp fun _ ⟨p, hc⟩ => ⟨p, cell_below hb hc⟩
  rng := h.rng.imp fun _ ⟨p, hc⟩ => ⟨p, cell_below hb hc⟩
  pow := (Lib.tabBelow_of_tabIs h.pow) w' hb

theorem grow_below (w : World) (k : Nat) (os : Array Obj) : Below w.heap.size w (grow (w.drewN k) os) := Lib.below_grow _ w (Nat.le_refl _) k os

theorem holds_zero0 (w : World) (T : TypeId) (nd : Nat) (hs : nd ≤ 24) : Holds (fun (b : UInt8) => Value.int .u8 (b.toNat : Int)) (w.alloc (.cells Lib.zeros24 T)) w.heap.size 0 (Array.replicate nd (0 : UInt8)) := fun j hj => by
  have hj' : j < nd := by simpa using hj
  refine ⟨?_, World.frozen?_alloc_new _ _ _ _⟩
  rw [World.cell?_alloc_new, Lib.zeros24_at _ (by omega), getElem!_pos _ j hj]
  simp

theorem fin0 (w : World) (o : Obj) (dk : Array UInt8) (k : Nat) : ∃ os, (putRow (fun (b : UInt8) => Value.int .u8 (b.toNat : Int)) (w.alloc o) w.heap.size 0 dk).drewN k = grow (w.drewN k) os := by
  rw [alloc_eq_grow]
  obtain ⟨os', _, e⟩ := putRow_grow_new (fun (b : UInt8) => Value.int .u8 (b.toNat : Int)) w #[o] w.heap.size 0 dk (Nat.le_refl _)
  exact ⟨os', by rw [e]; rfl⟩

set_option maxHeartbeats 2000000 in
set_option maxRecDepth 100000 in
theorem formatUint_small (u : Nat) (hi : u < 100) (w : World) :
    Calls Tryz.prog 288 #[.int .u64 u, .int .i64 10] w fun e w' => e = .returned (.string ⟨(Lib.decDigits u).toArray⟩) ∧ Below w.heap.size w w' := by
  go_enter Tryz.func288, Tryz.ntmps288
  go_wp2_with (go_at_call 311; refine (Tryz.internal_strconv_small u hi _).mono ?_; rintro e w' ⟨rfl, rfl⟩)
  go_ret
  exact ⟨rfl, Below.refl _ _⟩

set_option maxHeartbeats 2000000 in
set_option maxRecDepth 100000 in
theorem formatUint_large (u : Nat) (hi : ¬ u < 100) (hu64 : u < 18446744073709551616) (w : World) (htab : Lib.TabIs Tryz.prog w "internal/strconv.uint64pow10" .u64 Lib.pow10Tab) :
    Calls Tryz.prog 288 #[.int .u64 u, .int .i64 10] w fun e w' => e = .returned (.string ⟨(Lib.decDigits u).toArray⟩) ∧ Below w.heap.size w w' := by
  have hu1 : 1 ≤ u := by omega
  have hnd20 : Lib.nDigits u ≤ 20 := by have := Lib.numDigits_eq u hu1 hu64; split at this <;> omega
  have hal : Tryz.prog.arrayLen 317 = 24 := by kernel_rfl
  have hsl1 : ∀ W, (Instr.sliceAt 317 (.pointer (some ⟨w.heap.size, 0, none⟩)) none (some (.int .i64 (Lib.nDigits u : Int))) none).run Tryz.prog W = .ok (.slice (some ⟨w.heap.size, 0, none⟩) (Lib.nDigits u) 24) W := fun W => by
    rw [run_sliceAt_array_h W 317 ⟨w.heap.size, 0, none⟩ (by kernel_rfl) .i64 (Lib.nDigits u : Int) (by omega) (by rw [hal]; omega)]
    go_simp
  have hH0 := holds_zero0 w 317 (Lib.nDigits u) (by omega)
  have hfmt := Tryz.internal_strconv_formatBase10 w.heap.size 0 24 u (Array.replicate (Lib.nDigits u) 0) (w.alloc (.cells Lib.zeros24 317)) hH0 (by rw [Array.size_replicate]; exact Lib.lt_pow_nDigits u) hu64 (by rw [Array.size_replicate]; omega)
  rw [Array.size_replicate] at hfmt
  have HH0 := Lib.hid hH0
  clear hH0 hal
  have h100 : ¬ (u : Int) < 100 := by omega
  go_enter Tryz.func288, Tryz.ntmps288
  go_wp2_with (first
    | (go_at_call 312; refine (Tryz.internal_strconv_numDigits u hu1 hu64 _ (Lib.tabIs_alloc htab _)).mono ?_; rintro e w' ⟨rfl, rfl⟩))
  refine hfmt.mono ?_
  rintro e w' ⟨rfl, k, v', dk, rfl, hF⟩
  have hcv : (convert 256 9 (.slice (some ⟨w.heap.size, 0, none⟩) (Lib.nDigits u) 24)).run Tryz.prog ((putRow (fun (b : UInt8) => Value.int .u8 (b.toNat : Int)) (w.alloc (.cells Lib.zeros24 317)) w.heap.size 0 dk).drewN k) = .ok (.string ⟨(Lib.decDigits u).toArray⟩) ((putRow (fun (b : UInt8) => Value.int .u8 (b.toNat : Int)) (w.alloc (.cells Lib.zeros24 317)) w.heap.size 0 dk).drewN k) := by
    have h := run_convert_bytes_back (P := Tryz.prog) ((putRow (fun (b : UInt8) => Value.int .u8 (b.toNat : Int)) (w.alloc (.cells Lib.zeros24 317)) w.heap.size 0 dk).drewN k) 256 9 5 ⟨w.heap.size, 0, none⟩ 24 (Lib.decDigits u) Tryz.underlying256 Tryz.underlying5 Tryz.underlying9 (fun j hj => by
      rw [Lib.row_is_numeral hF j hj, Lib.add_plain, World.cell?_drewN]
      exact cell?_putRow (fun (b : UInt8) => Value.int .u8 (b.toNat : Int)) _ w.heap.size 0 _ dk HH0.out (by rw [hF.size, Array.size_replicate]) j (by rw [hF.size]; rw [Lib.decDigits_length] at hj; exact hj))
    rw [Lib.decDigits_length] at h
    exact h
  go_wp2
  go_ret
  obtain ⟨os, eo⟩ := fin0 w (.cells Lib.zeros24 317) dk k
  exact ⟨rfl, by rw [eo]; exact grow_below w k os⟩

theorem formatUint_in (u : Nat) (hu64 : u < 18446744073709551616) (w : World) (hE : Env w) :
    Calls Tryz.prog 288 #[.int .u64 u, .int .i64 10] w fun e w' => e = .returned (.string ⟨(Lib.decDigits u).toArray⟩) ∧ Below w.heap.size w w' := by
  by_cases h : u < 100
  · exact formatUint_small u h w
  · exact formatUint_large u h hu64 w hE.pow

set_option maxHeartbeats 400000 in
theorem formatUint_any (u : Nat) (hu64 : u < 18446744073709551616) (w : World) (hE : Env w) :
    Calls Tryz.prog 258 #[.int .u64 u, .int .i64 10] w fun e w' => e = .returned (.string ⟨(Lib.decDigits u).toArray⟩) ∧ Below w.heap.size w w' := by
  have h := formatUint_in u hu64 w hE
  go_enter Tryz.func258, Tryz.ntmps258
  go_wp2_with (go_at_call 288; refine h.mono ?_; rintro e w' ⟨rfl, hb⟩)
  go_ret
  exact ⟨rfl, hb⟩

/-- A number's digits, as they are written. -/
def digitsB (l : List UInt8) : Bool := match Lib.parseUintB 32 l with
  | .ok u => Lib.decDigits u == l
  | _ => false

def decV (acc : Nat) (l : List UInt8) : Nat := l.foldl (fun n c => 10 * n + (c.toNat - 48)) acc
theorem decV_ge : ∀ (l : List UInt8) (acc : Nat), acc ≤ decV acc l
  | [], acc => Nat.le_refl _
  | c :: l, acc => by
    have := decV_ge l (10 * acc + (c.toNat - 48))
    simp only [decV, List.foldl_cons] at this ⊢
    omega
theorem isDig_iff (c : UInt8) : isDig c = true ↔ 48 ≤ c.toNat ∧ c.toNat ≤ 57 := by simp [isDig]

theorem parse_iff : ∀ (l : List UInt8) (acc u : Nat), acc ≤ 4294967295 → (Lib.parseUintM 4294967295 acc l = .ok u ↔ l.all isDig = true ∧ decV acc l = u ∧ u ≤ 4294967295)
  | [], acc, u, ha => by
    simp only [Lib.parseUintM, decV, List.all_nil, List.foldl_nil, true_and]
    constructor
    · intro h; cases h; exact ⟨rfl, ha⟩
    · rintro ⟨h, _⟩; rw [h]
  | c :: l, acc, u, ha => by
    simp only [Lib.parseUintM, List.all_cons, Bool.and_eq_true, isDig_iff]
    have hg := decV_ge l (10 * acc + (c.toNat - 48))
    have hd : decV acc (c :: l) = decV (10 * acc + (c.toNat - 48)) l := rfl
    rw [hd]
    split
    · rename_i hc
      rw [if_neg (by omega)]
      split
      · rename_i hM
        constructor
        · intro h; cases h
        · rintro ⟨_, h1, h2⟩; omega
      · rename_i hM
        have ih := parse_iff l (acc * 10 + (c.toNat - 48)) u (by omega)
        rw [Nat.mul_comm acc 10] at ih ⊢
        rw [ih]
        constructor
        · rintro ⟨h1, h2, h3⟩; exact ⟨⟨hc, h1⟩, h2, h3⟩
        · rintro ⟨⟨_, h1⟩, h2, h3⟩; exact ⟨h1, h2, h3⟩
    · rename_i hc
      constructor
      · intro h; cases h
      · rintro ⟨⟨h, _⟩, _⟩; exact absurd h hc

theorem decDigits_head (u : Nat) : Lib.decDigits u ≠ [] ∧ ((Lib.decDigits u).length = 1 ∨ (Lib.decDigits u).head? ≠ some 48) := by
  induction u using Nat.strongRecOn with
  | _ u ih =>
    by_cases h : u < 10
    · rw [Lib.decDigits_one h]; simp
    · rw [Lib.decDigits, dif_neg h]
      refine ⟨by simp, .inr ?_⟩
      obtain ⟨h1, h2⟩ := ih (u / 10) (by omega)
      rcases h2 with h2 | h2
      · have : u / 10 < 10 := by
          rw [Lib.decDigits_length] at h2
          by_cases hh : u / 10 < 10
          · exact hh
          · rw [Lib.nDigits_big hh] at h2
            have := Lib.nDigits_pos (u / 10 / 10)
            omega
        rw [Lib.decDigits_one this]
        simp only [List.cons_append, List.head?_cons, ne_eq, Option.some.injEq]
        intro e
        have e' := congrArg UInt8.toNat e
        rw [UInt8.toNat_ofNat'] at e'
        have : (48 : UInt8).toNat = 48 := rfl
        omega
      · cases e : Lib.decDigits (u / 10) with
        | nil => exact absurd e h1
        | cons a r => rw [e] at h2; simpa using h2

theorem decV_snoc (l : List UInt8) (c : UInt8) : decV 0 (l ++ [c]) = 10 * decV 0 l + (c.toNat - 48) := by simp [decV]

theorem ofNat_dig (c : UInt8) (h : 48 ≤ c.toNat ∧ c.toNat ≤ 57) : UInt8.ofNat (48 + (c.toNat - 48)) = c := by
  rw [show 48 + (c.toNat - 48) = c.toNat from by omega]; simp

theorem decV_pos : ∀ (l : List UInt8), l ≠ [] → l.all isDig = true → l.head? ≠ some 48 → 1 ≤ decV 0 l
  | [], h, _, _ => absurd rfl h
  | c :: l, _, hd, hh => by
    simp only [List.all_cons, Bool.and_eq_true, isDig_iff] at hd
    have hg := decV_ge l (10 * 0 + (c.toNat - 48))
    have : decV 0 (c :: l) = decV (10 * 0 + (c.toNat - 48)) l := rfl
    rw [this]
    have hc : c.toNat ≠ 48 := fun e => hh (by simp only [List.head?_cons, Option.some.injEq]; exact UInt8.toNat.inj (by rw [e]; rfl))
    omega

theorem decDigits_decV : ∀ (n : Nat) (l : List UInt8), l.length = n → l ≠ [] → l.all isDig = true → (l.length = 1 ∨ l.head? ≠ some 48) → Lib.decDigits (decV 0 l) = l
  | 0, l, hn, h, _, _ => absurd (List.length_eq_zero_iff.1 hn) h
  | n + 1, l, hn, h, hd, hh => by
    obtain ⟨l', c, rfl⟩ : ∃ l' c, l = l' ++ [c] := ⟨l.dropLast, l.getLast h, (List.dropLast_concat_getLast h).symm⟩
    rw [List.all_append, Bool.and_eq_true] at hd
    have hc : 48 ≤ c.toNat ∧ c.toNat ≤ 57 := by
      have := hd.2
      simp only [List.all_cons, List.all_nil, Bool.and_true, isDig_iff] at this
      exact this
    rw [decV_snoc]
    cases hl : l' with
    | nil =>
      rw [Lib.decDigits_one (by simp [decV]; omega)]
      simp only [decV, List.foldl_nil, List.nil_append, Nat.mul_zero, Nat.zero_add]
      rw [ofNat_dig c hc]
    | cons a r =>
      have hne : l' ≠ [] := by rw [hl]; simp
      rw [← hl]
      have hh' : l'.head? ≠ some 48 := by
        rcases hh with hh | hh
        · rw [hl] at hh; simp at hh
        · rw [hl] at hh ⊢; simpa using hh
      have h1 := decV_pos l' hne hd.1 hh'
      have ih := decDigits_decV n l' (by simpa using hn) hne hd.1 (.inr hh')
      rw [Lib.decDigits, dif_neg (by omega)]
      rw [show (10 * decV 0 l' + (c.toNat - 48)) / 10 = decV 0 l' from by omega, show (10 * decV 0 l' + (c.toNat - 48)) % 10 = c.toNat - 48 from by omega, ih, ofNat_dig c hc]

theorem digitsB_eq (l : List UInt8) : digitsB l = numOk l := by
  rw [Bool.eq_iff_iff]
  have hv : decVal l = decV 0 l := rfl
  constructor
  · intro h
    unfold digitsB at h
    cases hp : Lib.parseUintB 32 l with
    | ok u =>
      rw [hp] at h
      have he : Lib.decDigits u = l := by simpa using h
      unfold Lib.parseUintB at hp
      split at hp
      · cases hp
      · obtain ⟨h1, h2, h3⟩ := (parse_iff l 0 u (by omega)).1 hp
        obtain ⟨h4, h5⟩ := decDigits_head u
        rw [he] at h4 h5
        simp only [numOk, Bool.and_eq_true, hv, decide_eq_true_eq, Bool.or_eq_true, bne_iff_ne]
        exact ⟨⟨⟨by simpa using h4, h1⟩, h5⟩, by omega⟩
    | _ => rw [hp] at h; cases h
  · intro h
    simp only [numOk, Bool.and_eq_true, hv, decide_eq_true_eq, Bool.or_eq_true, bne_iff_ne] at h
    obtain ⟨⟨⟨h1, h2⟩, h3⟩, h4⟩ := h
    have hne : l ≠ [] := by simpa using h1
    have hp : Lib.parseUintB 32 l = .ok (decV 0 l) := by
      unfold Lib.parseUintB
      rw [if_neg hne]
      exact (parse_iff l 0 _ (by omega)).2 ⟨h2, rfl, by omega⟩
    unfold digitsB
    rw [hp]
    simp only [beq_iff_eq]
    exact decDigits_decV _ l rfl hne h2 h3

theorem bytesWorld_or {w w' : World} {t : TypeId} {s : ByteArray} (h : w' = w ∨ w' = Lib.bytesWorld w t s) : Below w.heap.size w w' := by
  rcases h with rfl | rfl
  · exact Below.refl _ _
  · exact Lib.bytesWorld_below _ _ _

set_option maxHeartbeats 400000 in
theorem digits_any (s : ByteArray) (hs : s.size ≤ 281474976710656) (w : World) (hE : Env w) :
    Calls Tryz.prog 191 #[.string s] w fun e w' => e = .returned (.bool (digitsB s.data.toList)) ∧ Below w.heap.size w w' := by
  obtain ⟨ts, ps, hsyn⟩ := hE.syn
  obtain ⟨tr, pr, hrng⟩ := hE.rng
  cases hp : Lib.parseUintB 32 s.data.toList
  case ok u =>
    have hu := Lib.parseUintB_le hp
    have hP := Tryz.strconv_ParseUint_10_at32_ok s (by omega) u hp w
    have hD : Hid (digitsB s.data.toList = (Lib.decDigits u == s.data.toList)) := Lib.hid (by simp [digitsB, hp])
    clear hp
    go_enter Tryz.func191, Tryz.ntmps191
    go_wp2_with (first | (go_at_call 257; refine hP.mono ?_; rintro e w1 ⟨rfl, hw⟩) | (go_at_call 258; refine (formatUint_any u (by omega) _ (hE.below (bytesWorld_or hw))).mono ?_; rintro e w2 ⟨rfl, hb⟩))
    go_ret
    exact ⟨ret_bool (by rw [hD.out, ByteArray.toList_eq]), below_then (bytesWorld_or hw) (bytesWorld_or hw).size hb⟩
  case range =>
    have hP : Calls Tryz.prog 257 #[.string s, .int .i64 10, .int .i64 32] w fun e w' => ∃ N, e = .returned (.tuple #[.int .u64 4294967295, .iface 314 (.pointer (some ⟨N, 0, none⟩))]) ∧ w.heap.size ≤ N ∧ w'.heap[N]? = some (.cells #[.string ⟨#[80, 97, 114, 115, 101, 85, 105, 110, 116]⟩, .string s, .iface tr pr] 333 (0, 0)) ∧ Below w.heap.size w w' := Any.strconv_ParseUint_10_at32_range Tryz.laysPu14 s hs hp _ w hrng (.inr ⟨_, _, rfl⟩)
    have hD : Hid (digitsB s.data.toList = false) := Lib.hid (by simp [digitsB, hp])
    clear hp
    go_enter Tryz.func191, Tryz.ntmps191
    go_wp2_with (first | (go_at_call 257; refine hP.mono ?_; rintro e w1 ⟨N, rfl, hN, hc, hb⟩))
    go_ret
    exact ⟨ret_bool hD.out.symm, hb⟩
  all_goals
    have hP : Calls Tryz.prog 257 #[.string s, .int .i64 10, .int .i64 32] w fun e w' => ∃ N, e = .returned (.tuple #[.int .u64 0, .iface 314 (.pointer (some ⟨N, 0, none⟩))]) ∧ w.heap.size ≤ N ∧ w'.heap[N]? = some (.cells #[.string ⟨#[80, 97, 114, 115, 101, 85, 105, 110, 116]⟩, .string s, .iface ts ps] 333 (0, 0)) ∧ Below w.heap.size w w' := Any.strconv_ParseUint_10_at32_syntax Tryz.laysPu14 s hs hp _ w hsyn (.inr ⟨_, _, rfl⟩)
    have hD : Hid (digitsB s.data.toList = false) := Lib.hid (by simp [digitsB, hp])
    clear hp
    go_enter Tryz.func191, Tryz.ntmps191
    go_wp2_with (first | (go_at_call 257; refine hP.mono ?_; rintro e w1 ⟨N, rfl, hN, hc, hb⟩))
    go_ret
    exact ⟨ret_bool hD.out.symm, hb⟩
end Go.Proofs.YtfofjblkondnbaaGreatDoor.Ch

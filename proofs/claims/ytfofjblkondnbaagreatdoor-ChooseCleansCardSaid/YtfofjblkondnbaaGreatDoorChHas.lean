/- The walks of slices.IndexFunc, slices.ContainsFunc at texts, of choose.Has and choose.Leads. -/
import Derived.Test.YtfofjblkondnbaaGreatDoorChWithin
import Derived.Lib.Walk
namespace Go.Proofs.YtfofjblkondnbaaGreatDoor.Ch
open Go.RowKit Go.Sort

/-- A test of texts by a function value: what it answers, in every later world. -/
def Tests (g : FuncId) (cap : Value) (p : Bs → Bool) (l : List Bs) (w : World) : Prop :=
  ∀ (j : Nat) (h : j < l.length) (W : World), Below w.heap.size w W → Calls Tryz.prog g #[encStr l[j], cap] W fun e w' => e = .returned (.bool (p l[j])) ∧ Below W.heap.size W w'

def FoundPost (p : Bs → Bool) (l : List Bs) (w : World) (e : Ending) (w' : World) : Prop :=
  ∃ i : Int, e = .returned (.int .i64 i) ∧ decide (0 ≤ i) = l.any p ∧ Below w.heap.size w w'

set_option maxHeartbeats 1000000 in
set_option maxRecDepth 100000 in
theorem indexFunc_any (g : FuncId) (cap : Value) (eg : ∀ args w, (callFunc g args).run Tryz.prog w = .ok (.enter g args) w) (p : Bs → Bool) (A : Option Addr) (l : List Bs) (c : Nat) (w : World) (hS : StrsV w A l) (ht : Tests g cap p l w) :
    Calls Tryz.prog 120 #[.slice A l.length c, .func (.func g) #[] #[cap]] w (FoundPost p l w) := by
  have HT := Lib.hid ht
  clear ht
  have hm := hS.1
  go_enter Tryz.func120, Tryz.ntmps120
  go_wp2
  go_loopw [5, 8] (fun _ i wr => ∃ k : Nat, i = .int .i64 k ∧ k ≤ l.length ∧ Below w.heap.size w wr ∧ Hid ((l.take k).any p = false)) (fun _ i _ => l.length - (intOf i).toNat)
  case atStart => exact ⟨0, rfl, by omega, Below.refl _ _, Lib.hid (by simp)⟩
  case round =>
    obtain ⟨k, rfl, hk, hb, hall⟩ := hrel
    by_cases hlt : k < l.length
    · obtain ⟨b, o, rfl, hc⟩ := (hS.below hb).at_ k hlt
      have hts : (l.take (k + 1)).any p = ((l.take k).any p || p l[k]) := by
        rw [List.take_succ_eq_append_getElem hlt, List.any_append]; simp
      have HTS := Lib.hid hts
      clear hts
      have hany : p l[k] = true → l.any p = true := fun h => List.any_eq_true.2 ⟨l[k], List.getElem_mem _, h⟩
      have HANY := Lib.hid hany
      clear hany
      have hcall := HT.out k hlt wr hb
      cases hp : p l[k] with
      | true =>
        have HP := Lib.hid hp
        rw [hp] at hcall
        have HC := Lib.hid hcall
        clear hp hcall
        go_wp2_with fail
        refine HC.out.mono ?_
        rintro e w2 ⟨rfl, hb2⟩
        go_wp2
        go_ret
        exact ⟨k, rfl, by rw [HANY.out HP.out]; simp, bt hb hb2⟩
      | false =>
        have HP := Lib.hid hp
        rw [hp] at hcall
        have HC := Lib.hid hcall
        clear hp hcall
        go_wp2_with fail
        refine HC.out.mono ?_
        rintro e w2 ⟨rfl, hb2⟩
        go_wp2
        go_roundw
        case rel => exact ⟨k + 1, by go_num, by omega, bt hb hb2, Lib.hid (by rw [HTS.out, hall.out, HP.out]; rfl)⟩
        case measure => simp [intOf]; omega
    · have hall' : Hid (l.any p = false) := Lib.hid (by have := hall.out; rwa [List.take_of_length_le (by omega)] at this)
      go_wp2
      go_ret
      exact ⟨-1, rfl, by rw [hall'.out]; decide, hb⟩

set_option maxHeartbeats 400000 in
theorem containsFunc_any (g : FuncId) (cap : Value) (eg : ∀ args w, (callFunc g args).run Tryz.prog w = .ok (.enter g args) w) (p : Bs → Bool) (A : Option Addr) (l : List Bs) (c : Nat) (w : World) (hS : StrsV w A l) (ht : Tests g cap p l w) :
    Calls Tryz.prog 62 #[.slice A l.length c, .func (.func g) #[] #[cap]] w fun e w' => e = .returned (.bool (l.any p)) ∧ Below w.heap.size w w' := by
  have h := Lib.hid (indexFunc_any g cap eg p A l c w hS ht)
  clear ht
  go_enter Tryz.func62, Tryz.ntmps62
  go_wp2_with fail
  refine h.out.mono ?_
  rintro e w1 ⟨i, rfl, hi, hb⟩
  have HI := Lib.hid hi
  clear hi
  go_wp2
  go_ret
  exact ⟨ret_bool HI.out, hb⟩

set_option maxHeartbeats 400000 in
theorem has1_any (s a : ByteArray) (B : Nat) (hs : s.size ≤ 9223372036854775807) (ha : a.size ≤ 9223372036854775807) (w : World) (hE : Env w) (hc : w.cell? ⟨B, 0, none⟩ = some (.string a)) :
    Calls Tryz.prog 63 #[.string s, .pointer (some ⟨B, 0, none⟩)] w fun e w' => e = .returned (.bool (within a.data.toList s.data.toList)) ∧ Below w.heap.size w w' := by
  have h := Lib.hid (within_any a s ha hs w hE)
  go_enter Tryz.func63, Tryz.ntmps63
  go_wp2_with fail
  refine h.out.mono ?_
  rintro e w1 ⟨rfl, hb⟩
  go_wp2
  go_ret
  exact ⟨rfl, hb⟩
set_option maxHeartbeats 400000 in
theorem leads1_any (s a : ByteArray) (B : Nat) (hs : s.size ≤ 9223372036854775807) (ha : a.size ≤ 9223372036854775807) (w : World) (hE : Env w) (hc : w.cell? ⟨B, 0, none⟩ = some (.string a)) :
    Calls Tryz.prog 64 #[.string s, .pointer (some ⟨B, 0, none⟩)] w fun e w' => e = .returned (.bool (within s.data.toList a.data.toList)) ∧ Below w.heap.size w w' := by
  have h := Lib.hid (within_any s a hs ha w hE)
  go_enter Tryz.func64, Tryz.ntmps64
  go_wp2_with fail
  refine h.out.mono ?_
  rintro e w1 ⟨rfl, hb⟩
  go_wp2
  go_ret
  exact ⟨rfl, hb⟩

theorem short_of {l : List Bs} (h : ∀ s ∈ l, s.length ≤ 9223372036854775807) {j : Nat} (hj : j < l.length) : (⟨l[j].toArray⟩ : ByteArray).size ≤ 9223372036854775807 := by
  show l[j].toArray.size ≤ _
  simpa using h l[j] (List.getElem_mem _)

set_option maxHeartbeats 1000000 in
set_option maxRecDepth 100000 in
theorem has_any (A : Option Addr) (l : List Bs) (c : Nat) (a : ByteArray) (hl : ∀ s ∈ l, s.length ≤ 9223372036854775807) (ha : a.size ≤ 9223372036854775807) (w : World) (hE : Env w) (hS : StrsV w A l) :
    Calls Tryz.prog 17 #[.slice A l.length c, .string a] w fun e w' => e = .returned (.bool (has l a.data.toList)) ∧ Below w.heap.size w w' := by
  have hm := hS.1
  cases l with
  | nil =>
    go_enter Tryz.func17, Tryz.ntmps17
    go_wp2
    go_ret
    exact ⟨rfl, bal _ _⟩
  | cons x r =>
    have hb0 := bal w (.cells #[.string a] 9)
    have hcell : (w.alloc (.cells #[.string a] 9)).cell? ⟨w.heap.size, 0, none⟩ = some (.string a) := cell_new1 _ _ _
    have htests : Tests 63 (.pointer (some ⟨w.heap.size, 0, none⟩)) (fun s => within a.data.toList s) (x :: r) (w.alloc (.cells #[.string a] 9)) :=
      fun j hj W hW => has1_any ⟨(x :: r)[j].toArray⟩ a _ (short_of hl hj) ha W ((hE.below hb0).below hW) (cell_below hW hcell)
    have hcall := Lib.hid (containsFunc_any 63 _ (enters_of Tryz.func63 (by kernel_rfl) rfl) _ A (x :: r) c _ (hS.below hb0) htests)
    have hne : (((x :: r).length : Int) == 0) = false := by simp; omega
    clear htests hcell
    have hlen : Hid ((x :: r).length = (x :: r).length) := Lib.hid rfl
    go_enter Tryz.func17, Tryz.ntmps17
    go_wp2_with fail
    refine hcall.out.mono ?_
    rintro e w1 ⟨rfl, hb⟩
    go_wp2
    go_ret
    exact ⟨ret_bool (by simp [has]), bt hb0 hb⟩

set_option maxHeartbeats 1000000 in
set_option maxRecDepth 100000 in
theorem leads_any (A : Option Addr) (l : List Bs) (c : Nat) (a : ByteArray) (hl : ∀ s ∈ l, s.length ≤ 9223372036854775807) (ha : a.size ≤ 9223372036854775807) (w : World) (hE : Env w) (hS : StrsV w A l) :
    Calls Tryz.prog 18 #[.slice A l.length c, .string a] w fun e w' => e = .returned (.bool (leads l a.data.toList)) ∧ Below w.heap.size w w' := by
  have hm := hS.1
  have hb0 := bal w (.cells #[.string a] 9)
  have hcell : (w.alloc (.cells #[.string a] 9)).cell? ⟨w.heap.size, 0, none⟩ = some (.string a) := cell_new1 _ _ _
  have hHas := has_any A l c a hl ha _ (hE.below hb0) (hS.below hb0)
  cases hh : has l a.data.toList with
  | true =>
    rw [hh] at hHas
    have HH := Lib.hid hHas
    have HL : Hid (leads l a.data.toList = true) := Lib.hid (by simp [leads, hh])
    clear hHas hh
    go_enter Tryz.func18, Tryz.ntmps18
    go_wp2_with fail
    refine HH.out.mono ?_
    rintro e w1 ⟨rfl, hb⟩
    go_wp2
    go_ret
    exact ⟨ret_bool HL.out.symm, bt hb0 hb⟩
  | false =>
    rw [hh] at hHas
    have HH := Lib.hid hHas
    have HL : Hid (leads l a.data.toList = l.any fun s => within s a.data.toList) := Lib.hid (by simp [leads, hh])
    have htests : ∀ W1 : World, Below (w.alloc (.cells #[.string a] 9)).heap.size (w.alloc (.cells #[.string a] 9)) W1 → Tests 64 (.pointer (some ⟨w.heap.size, 0, none⟩)) (fun s => within s a.data.toList) l W1 :=
      fun W1 h1 j hj W hW => leads1_any ⟨l[j].toArray⟩ a _ (short_of hl hj) ha W ((hE.below (bt hb0 h1)).below hW) (cell_below hW (cell_below h1 hcell))
    have hcall := Lib.hid (fun W1 h1 => containsFunc_any 64 _ (enters_of Tryz.func64 (by kernel_rfl) rfl) _ A l c W1 (hS.below (bt hb0 h1)) (htests W1 h1))
    clear htests hHas hh
    go_enter Tryz.func18, Tryz.ntmps18
    go_wp2_with fail
    refine HH.out.mono ?_
    rintro e w1 ⟨rfl, hb⟩
    go_wp2_with fail
    refine (hcall.out _ hb).mono ?_
    rintro e w2 ⟨rfl, hb2⟩
    go_wp2
    go_ret
    exact ⟨ret_bool HL.out.symm, bt hb0 (bt hb hb2)⟩
end Go.Proofs.YtfofjblkondnbaaGreatDoor.Ch

/- slices.Values, slices.AppendSeq, slices.Collect, slices.Sorted, slices.Compact at texts. -/
import Derived.Test.YtfofjblkondnbaaGreatDoorChStr
import Derived.Test.YtfofjblkondnbaaGreatDoorShelf
import Derived.RangeFuncBox
import Derived.RangeFuncNested
import Derived.RangeFuncWrites
import Derived.RangeFuncBound
import Derived.RangeFuncCalls
import Derived.RangeFuncLeaves
import Derived.Shelf.Abstract
import Derived.OwnWalkIn
import Derived.TacticsInMore
import Derived.LoopNIn
import Derived.LoopIn
import Derived.Maps.AppendAt
import Derived.Sort.OwnSorted
namespace Go.Proofs.YtfofjblkondnbaaGreatDoor.Ch
open Go.RowKit Go.Sort Go.Shelf

attribute [local go_sem] Oper.semAt_some

/-- A slice of texts that lies below a block, or is empty. -/
def StrsB (n₀ : Nat) (w : World) (A : Option Addr) (l : List Bs) : Prop :=
  l.length ≤ 9223372036854775807 ∧ (0 < l.length → ∃ b o, A = some ⟨b, o, none⟩ ∧ b < n₀ ∧ ∀ j (h : j < l.length), w.cell? ⟨b, o + j, none⟩ = some (encStr l[j]))
theorem StrsV.low {w : World} {A : Option Addr} {l : List Bs} (h : StrsV w A l) : StrsB w.heap.size w A l :=
  ⟨h.1, fun hl => by
    obtain ⟨b, o, e, hc⟩ := h.2 hl
    exact ⟨b, o, e, World.block_lt_of_cell? w _ (hc 0 hl), hc⟩⟩
theorem StrsB.below {n₀ : Nat} {w w' : World} {A : Option Addr} {l : List Bs} (h : StrsB n₀ w A l) (hb : Below n₀ w w') : StrsB n₀ w' A l :=
  ⟨h.1, fun hl => by
    obtain ⟨b, o, e, hB, hc⟩ := h.2 hl
    exact ⟨b, o, e, hB, fun j hj => (hb.cell (p := ⟨b, o + j, none⟩) hB).trans (hc j hj)⟩⟩

set_option maxRecDepth 100000 in
set_option maxHeartbeats 2000000 in
/-- slices.Values's closure, for every loop body that keeps what lay below n₀. -/
theorem values1_in (n : Nat) (hn : 1 ≤ n) (lp Bx n₀ : Nat) (A : Option Addr) (c : Nat) (l : List Bs) (J Jx : List Bs → World → Prop)
    (hY : ∀ pre x W, J pre W → pre.length < l.length → YieldAt Fence.wide (n - 1) Tryz.prog lp #[encStr x] W fun e W' =>
      (e = .returned (.bool true) ∧ J (pre ++ [x]) W' ∧ Below n₀ W W') ∨ (e = .returned (.bool false) ∧ Jx (pre ++ [x]) W'))
    (W : World) (hBs : W.cell? ⟨Bx, 0, none⟩ = some (.slice A l.length c)) (hc : StrsB n₀ W A l) (h0 : J [] W) :
    CallsIn Fence.wide n Tryz.prog 116 #[.func (.yield lp) #[] #[], .pointer (some ⟨Bx, 0, none⟩)] W fun e W' => (∃ v, e = .returned v) ∧
      ((∃ ys, ys = l ∧ J ys W') ∨ (∃ pre, pre <+: l ∧ Jx pre W')) := by
  have hm := hc.1
  refine callsIn_of_wp Tryz.func116 rfl trivial ?_ rfl
  simp only [Tryz.ntmps116, List.size_toArray, List.length_cons, List.length_nil, Nat.reduceAdd, Nat.reduceSub, Array.replicate_succ, Array.replicate_zero, List.push_toArray, List.append_toArray, List.nil_append, List.cons_append]
  gi_wp2
  gi_loopw [7] (fun i wr => ∃ k : Nat, k ≤ l.length ∧ i = .int .i64 k ∧ J (l.take k) wr ∧ Below n₀ W wr)
    (fun i _ => l.length - (intOf i).toNat)
  case atStart => exact ⟨0, Nat.zero_le _, rfl, by simpa using h0, Below.refl _ _⟩
  case round =>
    obtain ⟨k, hk, rfl, hJs, hnx⟩ := hrel
    by_cases hlt : k < l.length
    · obtain ⟨b, o, e, hB, hcs⟩ := (hc.below hnx).2 (by omega)
      subst e
      have hcx := hcs k hlt
      obtain ⟨fn, tmps, assign, body, hy, hR⟩ := hY _ l[k] wr hJs (by rw [List.length_take]; omega)
      have hts : l.take (k + 1) = l.take k ++ [l[k]] := List.take_succ_eq_append_getElem hlt
      have HTS := Lib.hid hts
      clear hts
      gi_wp2
      refine hR.mono ?_
      rintro e W3 (⟨rfl, hJ3, hk3⟩ | ⟨rfl, hJx3⟩)
      · gi_wp2
        go_roundw
        case rel => exact ⟨k + 1, by omega, by simp, by rw [HTS.out]; exact hJ3, hnx.trans hk3⟩
        case measure => simp [intOf]; omega
      · gi_wp2
        refine bodyPost_ret (results_none rfl _ _ _) rfl ?_
        exact ⟨⟨_, rfl⟩, .inr ⟨_, List.take_prefix (k + 1) l, by rw [HTS.out]; exact hJx3⟩⟩
    · have hall : Hid (l.take k = l) := Lib.hid (List.take_of_length_le (by omega))
      gi_wp2
      go_end0
      exact ⟨⟨_, rfl⟩, .inl ⟨_, rfl, by rw [hall.out] at hJs; exact hJs⟩⟩

set_option maxHeartbeats 400000 in
theorem values_any (A : Option Addr) (len cap : Nat) (w : World) :
    Calls Tryz.prog 59 #[.slice A len cap] w fun e w' => e = .returned (.func (.func 116) #[] #[.pointer (some ⟨w.heap.size, 0, none⟩)]) ∧ w.alloc (.cells #[.slice A len cap] 22) = w' := by
  go_enter Tryz.func59, Tryz.ntmps59
  go_wp2
  go_ret
  exact ⟨rfl, rfl⟩

theorem values_stops (n : Nat) (hn : 1 ≤ n) (B n₀ : Nat) (A : Option Addr) (c : Nat) (l : List Bs) (w : World) (hBs : B < w.heap.size) (hn₀ : n₀ ≤ w.heap.size)
    (hc : w.cell? ⟨B, 0, none⟩ = some (.slice A l.length c)) (hI : StrsB n₀ w A l) :
    SeqStopsK Fence.wide n Tryz.prog 116 #[.pointer (some ⟨B, 0, none⟩)] (fun x : Bs => #[encStr x]) (Below n₀) (fun ys => ys = l) (fun pre => pre <+: l) l.length w := fun lp J Jx W hW _ _ hY h0 => by
  have hc' := (hW.cell (p := ⟨B, 0, none⟩) hBs).trans hc
  exact values1_in n hn lp B n₀ A c l J Jx hY W hc' (hI.below (hW.mono hn₀)) h0

/-- An iterator that gives just these texts, to every loop body that keeps what lay before. -/
def Gives (g : FuncId) (lb : Array Value) (l : List Bs) (w : World) : Prop :=
  ∀ n, 1 ≤ n → SeqStopsK Fence.wide n Tryz.prog g lb (fun x : Bs => #[encStr x]) (Below w.heap.size) (fun ys => ys = l) (fun pre => pre <+: l) l.length w

def OwnsPost (l : List Bs) (w : World) (e : Ending) (w' : World) : Prop :=
  ∃ v, e = .returned v ∧ w'.ownsRow w.heap.size 9 1 v l.length (l.map encStr) ∧ (v = .slice none 0 0 ↔ l = []) ∧ Below w.heap.size w w'

theorem info_str : (Tryz.prog.info? 9).map (fun i => (i.zero, i.size, i.bytes)) = some (some (.string ByteArray.empty), 1, 16) := by kernel_rfl

set_option maxRecDepth 100000 in
set_option maxHeartbeats 2000000 in
theorem appendSeq_any (g : FuncId) (lb : Array Value) (eg : ∀ args w, (callFunc g args).run Tryz.prog w = .ok (.enter g args) w) (l : List Bs) (hl : l.length * 16 ≤ 140737488355328) (w : World) (hseq : Gives g lb l w) :
    Calls Tryz.prog 185 #[.slice none 0 0, .func (.func g) #[] lb] w (OwnsPost l w) := by
  refine (callsIn_wide (n := 4)).1 ?_
  obtain ⟨i0, hi, hz0, hz1, hz2⟩ := info_parts info_str
  refine callsIn_of_wp_marks Tryz.func185 rfl trivial ?_ rfl
  simp only [Tryz.ntmps185, List.size_toArray, List.length_cons, List.length_nil, Nat.reduceAdd, Nat.reduceSub, Array.replicate_succ, Array.replicate_zero, List.push_toArray, List.append_toArray, List.nil_append, List.cons_append]
  gi_wp2
  have hb0 := bal w (.cells #[.slice none 0 0] 22)
  have hbx := Boxed.new w 22 (.slice none 0 0)
  refine wpIn_rangeFunc_ownG rfl (by omega) (gf := g) (lb := lb) rfl trivial eg (hseq 3 (by omega)) belowK_t (belowK_b (by simp)) hb0 (fun _ => rfl)
    (fun pre W => (∃ v, Boxed W w.heap.size 22 v ∧ W.ownsRow w.heap.size 9 1 v pre.length (pre.map encStr) ∧ (v = .slice none 0 0 ↔ pre = [])) ∧ Below w.heap.size w W)
    (fun _ _ _ => False) (OwnFrom.and (Own.from (holdsRow_own w.heap.size w.heap.size 22 9 1 (fun pre => pre.length) (fun pre => pre.map encStr) (fun pre v => v = .slice none 0 0 ↔ pre = [])) _) (ownFrom_below (Nat.le_refl _) (by simp)))
    (fun _ _ _ _ _ h _ _ => h) ⟨⟨_, hbx, World.ownsRow_nil _ _ _ _, by simp⟩, hb0⟩
    (fun x => { tmps := #[.slice none 0 0, .func (.func g) #[] lb, .pointer (some ⟨w.heap.size, 0, none⟩), undef, .slice none 0 0, encStr x, .func (.func g) #[] lb, encStr x, undef, undef, undef, undef, undef], defers := [] }) ?assign ?body ?done ?stop
  case assign =>
    intro lp x W K hK
    gi_wp2
    exact hK
  case body =>
    rintro lp pre x W ⟨⟨v, hv, hrow, hnil⟩, hB⟩ hlen
    have hc0 := hv.cell
    have hle := hB.size
    have HN := Lib.hid hnil
    clear hnil
    gi_wp2_with (gi_at_builtin; refine wpListIn_append_own _ rfl _ _ 22 rfl w.heap.size 9 i0 (.string ByteArray.empty) 1 16 Tryz.underlying22 hi hz0 hz1 hz2 rfl (by decide) _ _ _ rfl (hrow.alloc _) ⟨W.heap.size, 0, none⟩ 1 1 [encStr x] rfl rfl (cell_one_new _ _ _) (by simp [Value.oneCell']) (by unfold maxLen; omega) (by omega) (by simp; omega) ?_; intro v' w1 hown' hgrow _; obtain ⟨g', cap', rfl⟩ := ownsRow_succ hown'; obtain ⟨hv1, hv2, hr2, hk2, hb2⟩ := hv.appended (by decide) hrow hle (Nat.le_refl _) hown' hgrow; have hc1 := hv1.cell; have hf1 := hv1.frozen)
    exact ⟨hk2.from _, hb2, ⟨_, hv2, by simpa using hr2, by simp⟩, hB.trans hb2⟩
  case done =>
    rintro D ys W hD rfl ⟨⟨v, hv, hrow, hnil⟩, hB⟩ hK
    have hc0 := hv.cell
    gi_wp2
    refine ⟨by simp, .inl ⟨_, _, rfl, run_takeDeferred hK, ?_⟩⟩
    exact ⟨_, results_tmp rfl _ _ _, v, rfl, ownsRow_putObj hrow _ hK rfl, hnil, hB.trans (belowK_b (w := w) (Nat.le_refl _) W D _ _ (by simp at hD; omega) hK rfl rfl)⟩
  case stop =>
    rintro D c pre W _ _ h _
    exact h.elim

set_option maxHeartbeats 400000 in
theorem collect_any (g : FuncId) (lb : Array Value) (eg : ∀ args w, (callFunc g args).run Tryz.prog w = .ok (.enter g args) w) (l : List Bs) (hl : l.length * 16 ≤ 140737488355328) (w : World) (hseq : Gives g lb l w) :
    Calls Tryz.prog 114 #[.func (.func g) #[] lb] w (OwnsPost l w) := by
  have h := Lib.hid (appendSeq_any g lb eg l hl w hseq)
  go_enter Tryz.func114, Tryz.ntmps114
  go_wp2_with fail
  refine h.out.mono ?_
  rintro e w1 ⟨v, rfl, h1⟩
  have H1 := Lib.hid h1
  clear h1
  go_wp2
  go_ret
  exact ⟨v, rfl, H1.out⟩

def sortL (l : List Bs) : List Bs := l.mergeSort fun x y => decide (x ≤ y)
theorem sortL_length (l : List Bs) : (sortL l).length = l.length := List.length_mergeSort _

def SortedPost (l : List Bs) (w : World) (e : Ending) (w' : World) : Prop :=
  ∃ v, e = .returned v ∧ w'.ownsRow w.heap.size 9 1 v l.length ((sortL l).map encStr) ∧ (v = .slice none 0 0 ↔ l = []) ∧ Below w.heap.size w w'

theorem holds_own {w : World} {B e gb cap : Nat} {l : List Bs} (h : w.ownsRow B e 1 (.slice (some ⟨gb, 0, none⟩) l.length cap) l.length (l.map encStr)) : Holds encStr w gb 0 l.toArray ∧ gb < w.heap.size ∧ B ≤ gb := by
  rcases h.2 with ⟨hx, _⟩ | ⟨gb', cap', cur, hx, hbase, hgb, r1, r2, r3, r4⟩
  · cases hx
  · cases hx
    exact ⟨holds_of_block hgb (by simpa using r4), (Array.getElem?_eq_some_iff.1 hgb).1, hbase⟩

set_option maxHeartbeats 1000000 in
set_option maxRecDepth 100000 in
theorem sorted_any (g : FuncId) (lb : Array Value) (eg : ∀ args w, (callFunc g args).run Tryz.prog w = .ok (.enter g args) w) (l : List Bs) (hl : l.length * 16 ≤ 140737488355328) (w : World) (hseq : Gives g lb l w) :
    Calls Tryz.prog 58 #[.func (.func g) #[] lb] w (SortedPost l w) := by
  have h := Lib.hid (collect_any g lb eg l hl w hseq)
  by_cases hn : l = []
  · subst hn
    go_enter Tryz.func58, Tryz.ntmps58
    go_wp2_with fail
    refine h.out.mono ?_
    rintro e w1 ⟨v, rfl, hrow, hnil, hb⟩
    obtain rfl := hnil.2 rfl
    have HR := Lib.hid hrow
    clear hnil hrow
    go_wp2_with fail
    refine (Tryz.slices_Sort_string_none none 0 w1).mono ?_
    rintro e w2 ⟨rfl, rfl⟩
    go_wp2
    go_ret
    exact ⟨_, rfl, by simpa [sortL] using HR.out, by simp, hb⟩
  · have hpos : 0 < l.length := List.length_pos_iff.2 hn
    have hshape : ∀ (v : Value) (w1 : World), w1.ownsRow w.heap.size 9 1 v l.length (l.map encStr) → ∃ gb cap, v = .slice (some ⟨gb, 0, none⟩) l.length cap := fun v w1 hr => by
      obtain ⟨k, hk⟩ : ∃ k, l.length = k + 1 := ⟨l.length - 1, by omega⟩
      rw [hk] at hr ⊢
      exact ownsRow_succ hr
    have HSH := Lib.hid hshape
    clear hshape
    have HN := Lib.hid hn
    clear hn
    go_enter Tryz.func58, Tryz.ntmps58
    go_wp2_with fail
    refine h.out.mono ?_
    rintro e w1 ⟨v, rfl, hrow, hnil, hb⟩
    obtain ⟨gb, cap, rfl⟩ := HSH.out _ _ hrow
    obtain ⟨hH, hgl, hgB⟩ := holds_own hrow
    have HNI := Lib.hid hnil
    have HR := Lib.hid hrow
    clear hnil hrow
    go_wp2_with fail
    refine (Tryz.slices_Sort_string gb 0 cap l w1 hH hgl (by omega)).mono ?_
    rintro e w2 ⟨rfl, n, os, rfl⟩
    go_wp2
    go_ret
    refine ⟨_, rfl, ?_, HNI.out, ?_⟩
    · rcases HR.out.2 with ⟨hx, _⟩ | ⟨gb', cap', cur, hx, hbase, hgb, r1, r2, r3, r4⟩
      · cases hx
      · cases hx
        exact ownsRow_sorted (sortL_length l) hbase hgb r1 r2 (by simpa using r3)
    · exact hb.grown (grownBy_sorted _) hb.size (fun k e => by cases e; exact hgB)
end Go.Proofs.YtfofjblkondnbaaGreatDoor.Ch

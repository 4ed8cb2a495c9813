/- The walk of ChooseTwice: for every list of texts it returns true. -/
import Derived.Test.YtfofjblkondnbaaDoorChLives
import Derived.Deep.RegionHeld3
import Derived.Deep.AppendLies
import Derived.IntWalk
namespace Go.Proofs.YtfofjblkondnbaaDoor.Ch
open Go.RowKit Go.Sort

theorem cleanL_again {l m : List Bs} (h : (cleanL l).2 = 0) (hm : ∀ s, s ∈ m ↔ s ∈ (cleanL l).1) : cleanL m = ((cleanL l).1, 0) := by
  obtain ⟨h1, h2, h3⟩ := cleanL_zero h
  have hp : ∀ s ∈ m, isPath s = true := fun s hs => h1 s (((h2.mem s).1 ((hm s).1 hs)).1)
  have he : (sortC m).filter (top (sortC m)) = (cleanL l).1 := (cleaned_filter m).unique (h2.again hm)
  have : cleanL m = if (sortC m).all isPath then (if 8 < ((sortC m).filter (top (sortC m))).length then ([], 4) else ((sortC m).filter (top (sortC m)), 0)) else ([], 20) := rfl
  rw [this, if_pos ((all_path m).2 hp), he, if_neg (by omega)]

/-- the list turned round and told twice, after k rounds -/
def turned (out : List Bs) (k : Nat) : List Bs := (List.range k).flatMap fun i => [out.getD (out.length - 1 - i) [], out.getD i []]
theorem turned_succ (out : List Bs) (k : Nat) : turned out (k + 1) = turned out k ++ [out.getD (out.length - 1 - k) [], out.getD k []] := by
  simp [turned, List.range_succ, List.flatMap_append]
theorem turned_length (out : List Bs) : ∀ k, (turned out k).length = 2 * k
  | 0 => rfl
  | k + 1 => by rw [turned_succ, List.length_append, turned_length out k]; simp; omega
theorem turned_mem (out : List Bs) (s : Bs) : s ∈ turned out out.length ↔ s ∈ out := by
  unfold turned
  rw [List.mem_flatMap]
  constructor
  · rintro ⟨i, hi, hs⟩
    have hi' : i < out.length := List.mem_range.1 hi
    simp only [List.mem_cons, List.not_mem_nil, or_false] at hs
    rcases hs with rfl | rfl
    · rw [List.getD_eq_getElem?_getD, List.getElem?_eq_getElem (by omega)]; exact List.getElem_mem _
    · rw [List.getD_eq_getElem?_getD, List.getElem?_eq_getElem hi']; exact List.getElem_mem _
  · intro hs
    obtain ⟨i, hi, rfl⟩ := List.mem_iff_getElem.1 hs
    exact ⟨i, List.mem_range.2 hi, by simp [List.getD_eq_getElem?_getD, hi]⟩

set_option maxHeartbeats 4000000 in
set_option maxRecDepth 100000 in
theorem twice_any (A0 : Option Addr) (l : List Bs) (c0 : Nat) (hl' : ∀ s ∈ l, s.length ≤ 9223372036854775807) (hlen : l.length * 16 ≤ 140737488351232) (w : World) (hE : Env w) (hS0 : StrsV w A0 l) :
    Calls Tryd.prog 3 #[.slice A0 l.length c0] w fun e w' => e = .returned (.bool true) ∧ Below w.heap.size w w' := by
  have HL := Lib.hid hl'
  have hshort := fun W (hS : StrsV W A0 l) => short_any A0 l c0 hl' W hS
  clear hl'
  cases hsh : shortB l with
  | false =>
    rw [hsh] at hshort
    have HSH := Lib.hid hshort
    clear hshort hsh
    go_enter Tryd.func3, Tryd.ntmps3
    go_wp2_with fail
    refine (lives_any _ hE).mono ?_
    rintro e w1 ⟨rfl, hb1⟩
    go_wp2_with fail
    refine (HSH.out _ (hS0.below hb1)).mono ?_
    rintro e w2 ⟨rfl, rfl⟩
    go_wp2_with fail
    refine (lives_any _ (hE.below hb1)).mono ?_
    rintro e w2 ⟨rfl, hb2⟩
    go_wp2
    go_ret
    exact ⟨rfl, bt hb1 hb2⟩
  | true =>
    rw [hsh] at hshort
    have HSH := Lib.hid hshort
    clear hshort hsh
    by_cases hz : (cleanL l).2 = 0
    · have HZ := Lib.hid hz
      have hcl := fun W hE hS => clean_any A0 l c0 HL.out (by omega) W hE hS
      have hout : ∀ W e w', CleanPost l W e w' → ∃ A c, e = .returned (.tuple #[.slice A (cleanL l).1.length c, .int .i64 0]) ∧ StrsV w' A (cleanL l).1 ∧ Below W.heap.size W w' := fun W e w' ⟨A, c, h1, h2, h3⟩ => ⟨A, c, by rw [h1, hz], h2, h3⟩
      obtain ⟨hp, hc, h8⟩ := cleanL_zero hz
      have hcl2 : Hid (∀ A c W (hE : Env W) (hS : StrsV W A (turned (cleanL l).1 (cleanL l).1.length)), Calls Tryd.prog 6 #[.slice A (2 * (cleanL l).1.length) c] W fun e w' => ∃ A' c', e = .returned (.tuple #[.slice A' (cleanL l).1.length c', .int .i64 0]) ∧ StrsV w' A' (cleanL l).1 ∧ Below W.heap.size W w') := Lib.hid fun A c W hE hS => by
        have hmem : ∀ s ∈ turned (cleanL l).1 (cleanL l).1.length, s.length ≤ 9223372036854775807 := fun s hs => HL.out s (((hc.mem s).1 ((turned_mem _ s).1 hs)).1)
        have := clean_any A _ c hmem (by rw [turned_length]; omega) W hE hS
        rw [turned_length] at this
        refine this.mono fun e w' ⟨A', c', h1, h2, h3⟩ => ?_
        rw [cleanL_again hz (turned_mem _)] at h1 h2
        exact ⟨A', c', h1, h2, h3⟩
      have hOL : ∀ s ∈ (cleanL l).1, s.length ≤ 9223372036854775807 := fun s hs => HL.out s ((hc.mem s).1 hs).1
      have HCL := Lib.hid hcl
      have HOUT := Lib.hid hout
      clear hcl hout hz hp hc HZ hOL
      generalize (cleanL l).1 = out at *
      go_enter Tryd.func3, Tryd.ntmps3
      go_wp2_with fail
      refine (lives_any _ hE).mono ?_
      rintro e w1 ⟨rfl, hb1⟩
      have hS1 := hS0.below hb1
      have hE1 := hE.below hb1
      go_wp2_with fail
      refine (HSH.out _ hS1).mono ?_
      rintro e w2 ⟨rfl, rfl⟩
      go_wp2_with fail
      refine (HCL.out _ hE1 hS1).mono ?_
      intro e w2 hpost
      obtain ⟨A2, c2, rfl, hS2, hb2⟩ := HOUT.out _ _ _ hpost
      clear hpost
      have hE2 := hE1.below hb2
      go_wp2
      obtain ⟨i0, hi, hz0, hz1, hz2⟩ := info_parts info_str
      go_loopw [5, 6, 29] (fun v _ i wr => ∃ k : Nat, i = .int .i64 k ∧ k ≤ out.length ∧ wr.ownsRow w2.heap.size 9 1 v (turned out k).length ((turned out k).map encStr) ∧ Below w2.heap.size w2 wr) (fun _ _ i _ => out.length - (intOf i).toNat)
      case atStart => exact ⟨0, rfl, by omega, World.ownsRow_nil _ _ _ _, Below.refl _ _⟩
      case round =>
        obtain ⟨k, rfl, hk, hrow, hb⟩ := hrel
        by_cases hlt : k < out.length
        · obtain ⟨m, hmd, hmlt⟩ : ∃ m : Nat, m = out.length - 1 - k ∧ m < out.length := ⟨_, rfl, by omega⟩
          obtain ⟨b, o, rfl, hc1⟩ := (hS2.below hb).at_ m hmlt
          obtain ⟨b', o', e', hc2⟩ := (hS2.below hb).at_ k hlt
          cases e'
          have hblt : b < w2.heap.size := by
            obtain ⟨b1, o1, e1, hcc⟩ := hS2.2 (by omega)
            cases e1
            exact World.block_lt_of_cell? w2 _ (hcc 0 (by omega))
          have htlen : (turned out k).length = 2 * k := turned_length out k
          have hws := hb.size
          have htk : Hid (turned out (k + 1) = turned out k ++ [out[m], out[k]]) := Lib.hid (by
            rw [turned_succ, ← hmd, List.getD_eq_getElem?_getD, List.getD_eq_getElem?_getD, List.getElem?_eq_getElem hmlt, List.getElem?_eq_getElem hlt]; rfl)
          have e1 : IntKind.i64.wrap ((out.length : Int) - 1) = (out.length : Int) - 1 := IntWalk.i64_in _ (by omega)
          have e2 : IntKind.i64.wrap ((out.length : Int) - 1 - (k : Int)) = (m : Int) := by rw [IntWalk.i64_in _ (by omega)]; omega
          have hm1 : (m : Int) < (out.length : Int) := by omega
          have hk1 : (k : Int) < (out.length : Int) := by omega
          have hne : u5.ownBlock ≠ some b := fun e => by have := (hrow.lt b e).1; omega
          generalize (turned out k) = T at *
          clear hmd
          go_wp2
          go_region_held3 (fun w' => w'.cell? ⟨b, o + m, none⟩ = some (encStr out[m]) ∧ w'.cell? ⟨b, o + k, none⟩ = some (encStr out[k]))
            (first
              | go_keep
              | (go_split_ands
                 refine ⟨?_, ?_⟩
                 · (rw [hgrow.cell_far _ (by simp; omega) (Ne.symm hne)]; assumption)
                 · (rw [hgrow.cell_far _ (by simp; omega) (Ne.symm hne)]; assumption)))
            ((refine step_append_lies _ (by rfl) _ _ _ (by rfl) w2.heap.size 9 i0 _ 1 16 Tryd.underlying22 hi hz0 hz1 hz2 rfl (by omega) u5 T.length (T.map encStr) (by rfl) ((hrow.alloc _).drew)
                ⟨wr.heap.size, 0, none⟩ 2 2 [encStr out[m], encStr out[k]] (by rfl) (by rfl) (World.news_of_block (cs := #[encStr out[m], encStr out[k]]) (t := 9) (fr := (0, 0)) (heap_alloc_new wr _)) (by simp [Value.oneCell'])
                (by omega) (by unfold maxLen; omega) (by omega) (by simp; omega) (wr.heap.size + 1) (by simp) ?_; intro gg cap w6 hown6 hgrow hat hlt6))
          go_wp2
          go_roundw
          case rel =>
            refine ⟨k + 1, by go_num, by omega, ?_, ((below_drew (hb.alloc hws _)).grown hgrow (by simp; omega) (fun q e => (hrow.lt q e).1))⟩
            rw [htk.out, List.map_append, List.length_append]
            simp [htlen] at hown6 ⊢
            exact hown6
          case measure => simp [intOf]; omega
        · have hkn : k = out.length := by omega
          subst hkn
          have htl := turned_length out out.length
          obtain ⟨A5, c5, rfl, hS5⟩ := strsV_own hrow (by rw [htl]; omega)
          rw [htl]
          have hE5 := hE2.below hb
          have hS2' := hS2.below hb
          have HT := Lib.hid htl
          clear htl
          go_wp2_with fail
          refine (hcl2.out _ _ _ hE5 hS5).mono ?_
          rintro e w6 ⟨A6, c6, rfl, hS6, hb6⟩
          have hsame := same_any A6 A2 out out c6 c2 w6 hS6 (hS2'.below hb6)
          rw [show (out == out) = true from by simp] at hsame
          have HSM := Lib.hid hsame
          clear hsame
          go_wp2_with fail
          refine HSM.out.mono ?_
          rintro e w7 ⟨rfl, hb7⟩
          go_wp2
          go_ret
          exact ⟨rfl, bt hb1 (bt hb2 (bt hb (bt hb6 hb7)))⟩
    · have hcl := fun W hE hS => clean_any A0 l c0 HL.out (by omega) W hE hS
      have hout : ∀ W e w', CleanPost l W e w' → ∃ A c, e = .returned (.tuple #[.slice A 0 c, .int .i64 (cleanL l).2]) ∧ Below W.heap.size W w' := fun W e w' ⟨A, c, h1, h2, h3⟩ => ⟨A, c, by rw [h1, cleanL_not hz]; rfl, h3⟩
      have hz1 : ((cleanL l).2 != 0) = true := by rw [bne_iff_ne]; exact hz
      have HCL := Lib.hid hcl
      have HOUT := Lib.hid hout
      clear hcl hout hz
      generalize (cleanL l).2 = z at *
      go_enter Tryd.func3, Tryd.ntmps3
      go_wp2_with fail
      refine (lives_any _ hE).mono ?_
      rintro e w1 ⟨rfl, hb1⟩
      have hS1 := hS0.below hb1
      have hE1 := hE.below hb1
      go_wp2_with fail
      refine (HSH.out _ hS1).mono ?_
      rintro e w2 ⟨rfl, rfl⟩
      go_wp2_with fail
      refine (HCL.out _ hE1 hS1).mono ?_
      intro e w2 hpost
      obtain ⟨A2, c2, rfl, hb2⟩ := HOUT.out _ _ _ hpost
      clear hpost
      go_wp2
      go_ret
      exact ⟨rfl, bt hb1 hb2⟩
end Go.Proofs.YtfofjblkondnbaaDoor.Ch

/- The walks of the document's answer for a path: Split, Join, Begins, Within. -/
import Derived.Test.YtfofjblkondnbaaGreatDoorChRef3
import Derived.Test.YtfofjblkondnbaaGreatDoorChPath
namespace Go.Proofs.YtfofjblkondnbaaGreatDoor.Ch
open Go.RowKit Go.Sort

theorem strsV_ownc {w : World} {B e : Nat} {v : Value} {l : List Bs} (h : w.ownsRow B e 1 v l.length (l.map encStr)) (hl : l.length ≤ 9223372036854775807) : ∃ A c, v = .slice A l.length c ∧ StrsV w A l ∧ l.length ≤ c ∧ c ≤ 9223372036854775807 := by
  rcases h.2 with ⟨rfl, h0⟩ | ⟨gb, cap, cur, rfl, _, hgb, r1, r2, r3, r4⟩
  · obtain rfl : l = [] := List.length_eq_zero_iff.1 h0
    exact ⟨none, 0, rfl, StrsV.nil _ _, by simp, by simp⟩
  · have hH : Holds encStr w gb 0 l.toArray := holds_of_block hgb (by simpa using r4)
    refine ⟨_, _, rfl, ⟨hl, fun _ => ⟨gb, 0, rfl, fun j hj => ?_⟩⟩, r1, r2⟩
    have := (hH j (by simpa using hj)).1
    simpa [getElem!_pos, hj] using this

/-- What Split answers, with the slice's room. -/
def SplitPostC (s : Bs) (w : World) (e : Ending) (w' : World) : Prop :=
  ∃ (A : Option Addr) (c : Nat), e = .returned (.tuple #[.slice A ((pathOf s).getD []).length c, .int .i64 (if (pathOf s).isSome then 0 else 20)]) ∧ StrsV w' A ((pathOf s).getD []) ∧ Below w.heap.size w w' ∧ ((pathOf s).getD []).length ≤ c ∧ c ≤ 9223372036854775807
theorem splitPostC_none {s : Bs} (h : pathOf s = none) {w w' : World} (hb : Below w.heap.size w w') : SplitPostC s w (.returned (.tuple #[.slice none 0 0, .int .i64 20])) w' :=
  ⟨none, 0, by rw [h]; rfl, by rw [h]; exact StrsV.nil _ _, hb, by rw [h]; exact Nat.le_refl _, by decide⟩

/-- Between two rounds: the parts that are told, the place of the next one, the place that is looked at. -/
def SplitInv (l r : Bs) (P : List Bs) (f i : Nat) : Prop :=
  P.length ≤ 10 ∧ P.all partOk = true ∧
  ((f ≤ i ∧ i ≤ l.length ∧ splitC 47 r = P ++ splitC 47 (l.drop f) ∧ (47 : UInt8) ∉ (l.take i).drop f) ∨ (f = l.length + 1 ∧ i = l.length + 1 ∧ splitC 47 r = P))

theorem splitInv_start {l r : Bs} (h : l = 47 :: r) : SplitInv l r [] 1 1 :=
  ⟨by simp, by simp, .inl ⟨by omega, by rw [h]; simp, by rw [h]; simp, by rw [h]; simp⟩⟩

theorem drop_split (l : Bs) (f i : Nat) (h : f ≤ i) : l.drop f = (l.take i).drop f ++ l.drop i := by
  conv => lhs; rw [← List.take_append_drop i l]
  rw [List.drop_append]
  congr 1
  rcases Nat.lt_or_ge i l.length with hl | hl
  · rw [List.length_take, Nat.min_eq_left (by omega), show f - i = 0 from by omega]; rfl
  · rw [List.drop_eq_nil_of_le hl, List.drop_nil]

theorem splitInv_skip {l r : Bs} {P : List Bs} {f i : Nat} (h : SplitInv l r P f i) (hi : i < l.length) (hc : l[i] ≠ 47) : SplitInv l r P f (i + 1) := by
  obtain ⟨h1, h2, h3⟩ := h
  refine ⟨h1, h2, ?_⟩
  rcases h3 with ⟨h4, h5, h6, h7⟩ | ⟨_, h5, _⟩
  · refine .inl ⟨by omega, by omega, h6, ?_⟩
    rw [List.take_succ_eq_append_getElem hi, List.drop_append_of_le_length (by rw [List.length_take]; omega), List.mem_append, not_or]
    exact ⟨h7, by simpa using fun e => hc e.symm⟩
  · omega

/-- the part at hand -/
def partAt (l : Bs) (f i : Nat) : Bs := (l.take i).drop f

theorem splitInv_here {l r : Bs} {P : List Bs} {f i : Nat} (h : SplitInv l r P f i) (hi : i ≤ l.length) (hc : i = l.length ∨ ∃ h : i < l.length, l[i] = 47) :
    f ≤ i ∧ ((i = l.length ∧ splitC 47 r = P ++ [partAt l f i]) ∨ (i < l.length ∧ splitC 47 r = P ++ partAt l f i :: splitC 47 (l.drop (i + 1)))) := by
  obtain ⟨h1, h2, h3⟩ := h
  rcases h3 with ⟨h4, h5, h6, h7⟩ | ⟨_, h5, _⟩
  · refine ⟨h4, ?_⟩
    have hd := drop_split l f i h4
    rcases hc with hc | ⟨hlt, hc⟩
    · refine .inl ⟨hc, ?_⟩
      have h0 : l.drop i = [] := List.drop_eq_nil_of_le (by omega)
      rw [h6, hd, h0, List.append_nil, splitC_free 47 _ h7]
      rfl
    · refine .inr ⟨hlt, ?_⟩
      have h0 : l.drop i = 47 :: l.drop (i + 1) := by rw [List.drop_eq_getElem_cons hlt, hc]
      rw [h6, hd, h0, splitC_append, splitC_free 47 _ h7]
      rfl
  · omega

theorem splitInv_none {l r : Bs} {P : List Bs} {p : Bs} {t : List Bs} (hl : l = 47 :: r) (hr : r ≠ []) (h : splitC 47 r = P ++ p :: t) (hbad : partOk p = false ∨ P.length = 10) : pathOf l = none := by
  unfold pathOf
  split
  · rfl
  · rw [hl]
    simp only [if_true, if_neg hr]
    rw [if_neg]
    rintro ⟨h1, h2⟩
    rw [h] at h1 h2
    rcases hbad with hb | hb
    · have := List.all_eq_true.1 h2 p (by simp)
      rw [hb] at this; cases this
    · simp at h1; omega

theorem splitInv_push {l r : Bs} {P : List Bs} {f i : Nat} (h : SplitInv l r P f i) (hi : i ≤ l.length) (hc : i = l.length ∨ ∃ h : i < l.length, l[i] = 47) (hp : partOk (partAt l f i) = true) (h10 : P.length ≠ 10) :
    SplitInv l r (P ++ [partAt l f i]) (i + 1) (i + 1) := by
  have hh := splitInv_here h hi hc
  obtain ⟨h1, h2, _⟩ := h
  refine ⟨by simp; omega, by rw [List.all_append, h2]; simp [hp], ?_⟩
  rcases hh.2 with ⟨e, hs⟩ | ⟨hlt, hs⟩
  · exact .inr ⟨by omega, by omega, hs⟩
  · refine .inl ⟨by omega, by omega, by rw [hs]; simp, ?_⟩
    rw [List.drop_eq_nil_of_le (by rw [List.length_take]; omega)]
    simp

theorem splitInv_done {l r : Bs} {P : List Bs} {f i : Nat} (hl : l = 47 :: r) (hr : r ≠ []) (h120 : l.length ≤ 120) (h : SplitInv l r P f i) (hi : l.length < i) : pathOf l = some P := by
  obtain ⟨h1, h2, h3⟩ := h
  rcases h3 with ⟨_, h5, _⟩ | ⟨_, _, h6⟩
  · omega
  · unfold pathOf
    rw [if_neg (by omega), hl]
    simp only [if_true, if_neg hr]
    rw [h6, if_pos ⟨h1, h2⟩]

theorem extract_data (s : ByteArray) (f i : Nat) : (s.extract f i).data.toList = partAt s.data.toList f i := by
  unfold partAt
  rw [Lib.extract_data, List.drop_take]

theorem extract_sz (s : ByteArray) (f i : Nat) (h : i ≤ s.size) : (s.extract f i).size = i - f ∧ f ≤ f ∧ i ≤ s.size := ⟨by rw [ByteArray.size_extract]; omega, Nat.le_refl _, h⟩

set_option maxHeartbeats 2000000 in
set_option maxRecDepth 100000 in
theorem refSplit_parts (s : ByteArray) (h : ¬ 120 < s.size) (r : Bs) (h1 : s.data.toList = 47 :: r) (hr : r ≠ []) (w : World) :
    Calls Tryz.prog 20 #[.string s] w (SplitPostC s.data.toList w) := by
  have hsl : s.data.toList.length = s.size := by simp
  have hsz2 : 2 ≤ s.size := by
    have := congrArg List.length h1
    rw [hsl, List.length_cons] at this
    have : r.length ≠ 0 := fun e => hr (List.length_eq_zero_iff.1 e)
    omega
  have e1 : (s.toList == [47]) = false := by rw [ByteArray.toList_eq, beq_eq_false_iff_ne, h1]; simpa using hr
  have e2 : s.toList.isEmpty = false := by rw [ByteArray.toList_eq, h1]; rfl
  have e2' : ¬ s.toList = [] := by rw [ByteArray.toList_eq, h1]; simp
  have e3 : ((s[0].toNat : Int) != 47) = false := by
    rw [bne_eq_false_iff_eq]
    obtain ⟨hk, hg⟩ := toList_get s 0 (by omega)
    have : s[0] = 47 := by rw [← hg]; simp [h1]
    rw [this]; rfl
  have hstart := Lib.hid (splitInv_start h1)
  have HNONE := Lib.hid (fun P p t hh hb => splitInv_none (P := P) (p := p) (t := t) h1 hr hh hb)
  have HDONE := Lib.hid (fun P f i hh hi => splitInv_done (P := P) (f := f) (i := i) h1 hr (by omega) hh hi)
  have HR := Lib.hid hr
  have HSL := Lib.hid hsl
  clear h1 hr
  go_enter Tryz.func20, Tryz.ntmps20
  go_wp2
  obtain ⟨i0, hi, hz0, hz1, hz2⟩ := info_parts info_str
  go_loopw [4, 5, 6] (fun v f i wr => ∃ (P : List Bs) (nf ni : Nat), f = .int .i64 nf ∧ i = .int .i64 ni ∧ ni ≤ s.size + 1 ∧ P.length ≤ 10 ∧ wr.ownsRow w.heap.size 9 1 v P.length (P.map encStr) ∧ Below w.heap.size w wr ∧ Hid (SplitInv s.data.toList r P nf ni)) (fun _ _ i _ => s.size + 1 - (intOf i).toNat)
  case atStart => exact ⟨[], 1, 1, rfl, rfl, by omega, by simp, World.ownsRow_nil _ _ _ _, Below.refl _ _, hstart⟩
  case round =>
    obtain ⟨P, nf, ni, rfl, rfl, hni, hP10, hrow, hb, hinv⟩ := hrel
    by_cases hle : ni ≤ s.size
    · obtain ⟨g0, g1, g2⟩ := extract_sz s nf ni hle
      by_cases hskip : ∃ h : ni < s.size, s[ni].toNat ≠ 47
      · obtain ⟨hlt, hne⟩ := hskip
        obtain ⟨hil, hget⟩ := toList_get s ni hlt
        have hb1 : ((s[ni].toNat : Int) != 47) = true := by rw [bne_iff_ne]; omega
        have hb2 : ((s[ni].toNat : Int) == 47) = false := by rw [beq_eq_false_iff_ne]; omega
        have hnext := Lib.hid (splitInv_skip hinv.out hil (fun e => hne ((slash_iff _).1 (by rw [← hget]; exact e))))
        clear hget
        go_wp2
        go_roundw
        case rel => exact ⟨P, nf, ni + 1, rfl, by go_num, by omega, hP10, hrow, hb, hnext⟩
        case measure => simp [intOf]; omega
      · have hcL : Hid (ni = s.data.toList.length ∨ ∃ h : ni < s.data.toList.length, s.data.toList[ni] = 47) := Lib.hid (by
          by_cases hlt : ni < s.size
          · obtain ⟨hil, hget⟩ := toList_get s ni hlt
            exact .inr ⟨hil, by rw [hget, slash_iff]; exact Classical.byContradiction (fun h => hskip ⟨hlt, h⟩)⟩
          · left; rw [HSL.out]; omega)
        have hfi : nf ≤ ni := (splitInv_here hinv.out (by rw [HSL.out]; omega) hcL.out).1
        have hpart := refPart_any (s.extract nf ni) (by omega) wr
        rw [extract_data] at hpart
        have HBAD : Hid (partOk (partAt s.data.toList nf ni) = false ∨ P.length = 10 → pathOf s.data.toList = none) := Lib.hid (fun hb => by
          have hh := splitInv_here hinv.out (by rw [HSL.out]; omega) hcL.out
          rcases hh.2 with ⟨_, h⟩ | ⟨_, h⟩
          · exact HNONE.out P _ [] h hb
          · exact HNONE.out P _ _ h hb)
        cases hp : partOk (partAt s.data.toList nf ni) with
        | false =>
          rw [hp] at hpart
          have HPA := Lib.hid hpart
          have hno : Hid (pathOf s.data.toList = none) := Lib.hid (HBAD.out (.inl hp))
          clear hpart hp hcL
          by_cases hlt : ni < s.size
          · have hb1 : ((s[ni].toNat : Int) != 47) = false := by rw [bne_eq_false_iff_eq]; exact Classical.byContradiction (fun h => hskip ⟨hlt, fun e => h (by omega)⟩)
            have hb2 : ((s[ni].toNat : Int) == 47) = true := by rw [beq_iff_eq]; rw [bne_eq_false_iff_eq] at hb1; exact hb1
            clear hskip
            go_wp2_with fail
            refine HPA.out.mono ?_
            rintro e w4 ⟨rfl, rfl⟩
            go_wp2
            go_ret2
            exact splitPostC_none hno.out hb
          · go_wp2_with fail
            refine HPA.out.mono ?_
            rintro e w4 ⟨rfl, rfl⟩
            go_wp2
            go_ret2
            exact splitPostC_none hno.out hb
        | true =>
          rw [hp] at hpart
          have HPA := Lib.hid hpart
          have HP := Lib.hid hp
          clear hpart hp
          have HPUSH : Hid (P.length ≠ 10 → SplitInv s.data.toList r (P ++ [partAt s.data.toList nf ni]) (ni + 1) (ni + 1)) := Lib.hid (fun h => splitInv_push hinv.out (by rw [HSL.out]; omega) hcL.out HP.out h)
          have HEX : Hid (s.extract nf ni = ⟨(partAt s.data.toList nf ni).toArray⟩) := Lib.hid (by rw [← extract_data])
          have hwsz := hb.size
          clear hcL
          obtain ⟨A, c, hv, hS⟩ := strsV_own hrow (by omega)
          by_cases h10 : P.length = 10
          · have hno : Hid (pathOf s.data.toList = none) := Lib.hid (HBAD.out (.inr h10))
            subst hv
            by_cases hlt : ni < s.size
            · have hb1 : ((s[ni].toNat : Int) != 47) = false := by rw [bne_eq_false_iff_eq]; exact Classical.byContradiction (fun h => hskip ⟨hlt, fun e => h (by omega)⟩)
              have hb2 : ((s[ni].toNat : Int) == 47) = true := by rw [beq_iff_eq]; rw [bne_eq_false_iff_eq] at hb1; exact hb1
              clear hskip
              go_wp2_with fail
              refine HPA.out.mono ?_
              rintro e w4 ⟨rfl, rfl⟩
              go_wp2
              go_ret2
              exact splitPostC_none hno.out hb
            · go_wp2_with fail
              refine HPA.out.mono ?_
              rintro e w4 ⟨rfl, rfl⟩
              go_wp2
              go_ret2
              exact splitPostC_none hno.out hb
          · have hpush := Lib.hid (HPUSH.out h10)
            subst hv
            by_cases hlt : ni < s.size
            · have hb1 : ((s[ni].toNat : Int) != 47) = false := by rw [bne_eq_false_iff_eq]; exact Classical.byContradiction (fun h => hskip ⟨hlt, fun e => h (by omega)⟩)
              have hb2 : ((s[ni].toNat : Int) == 47) = true := by rw [beq_iff_eq]; rw [bne_eq_false_iff_eq] at hb1; exact hb1
              clear hskip
              go_wp2_with fail
              refine HPA.out.mono ?_
              rintro e w4 ⟨rfl, rfl⟩
              go_wp2_with (at_builtin; refine wpList_append_own _ rfl _ _ 22 rfl w.heap.size 9 i0 (.string ByteArray.empty) 1 16 Tryz.underlying22 hi hz0 hz1 hz2 rfl (by decide) _ _ _ rfl (hrow.alloc _) ⟨wr.heap.size, 0, none⟩ 1 1 [encStr (partAt s.data.toList nf ni)] rfl rfl (by rw [HEX.out]; exact cell_one_new _ _ _) (by simp [Value.oneCell']) (by unfold maxLen; omega) (by omega) (by simp; omega) ?_; intro v' w6 hown' hgrow _)
              go_roundw
              case rel =>
                refine ⟨P ++ [partAt s.data.toList nf ni], ni + 1, ni + 1, by go_num, by go_num, by omega, by simp; omega, ?_, ((hb.alloc hwsz _).grown hgrow (by simp; omega) (fun q e => (hrow.lt q e).1)), hpush⟩
                rw [List.map_append, List.length_append]
                simpa using hown'
              case measure => simp [intOf]; omega
            · go_wp2_with fail
              refine HPA.out.mono ?_
              rintro e w4 ⟨rfl, rfl⟩
              go_wp2_with (at_builtin; refine wpList_append_own _ rfl _ _ 22 rfl w.heap.size 9 i0 (.string ByteArray.empty) 1 16 Tryz.underlying22 hi hz0 hz1 hz2 rfl (by decide) _ _ _ rfl (hrow.alloc _) ⟨wr.heap.size, 0, none⟩ 1 1 [encStr (partAt s.data.toList nf ni)] rfl rfl (by rw [HEX.out]; exact cell_one_new _ _ _) (by simp [Value.oneCell']) (by unfold maxLen; omega) (by omega) (by simp; omega) ?_; intro v' w6 hown' hgrow _)
              go_roundw
              case rel =>
                refine ⟨P ++ [partAt s.data.toList nf ni], ni + 1, ni + 1, by go_num, by go_num, by omega, by simp; omega, ?_, ((hb.alloc hwsz _).grown hgrow (by simp; omega) (fun q e => (hrow.lt q e).1)), hpush⟩
                rw [List.map_append, List.length_append]
                simpa using hown'
              case measure => simp [intOf]; omega
    · have hp : Hid (pathOf s.data.toList = some P) := Lib.hid (HDONE.out P nf ni hinv.out (by rw [HSL.out]; omega))
      obtain ⟨A, c, rfl, hS, hc1, hc2⟩ := strsV_ownc hrow (by omega)
      go_wp2
      go_ret2
      exact ⟨_, _, by rw [hp.out]; rfl, by rw [hp.out]; exact hS, hb, by rw [hp.out]; exact hc1, hc2⟩
set_option maxHeartbeats 2000000 in
set_option maxRecDepth 100000 in
theorem refSplit_any (s : ByteArray) (hs : s.size ≤ 4611686018427387900) (w : World) :
    Calls Tryz.prog 20 #[.string s] w (SplitPostC s.data.toList w) := by
  have hsl : s.data.toList.length = s.size := by simp
  rcases hd : s.data.toList with _ | ⟨x, r⟩
  · have hp : Hid (pathOf [] = none) := Lib.hid rfl
    have h0 : s.toList = [] := by rw [ByteArray.toList_eq]; exact hd
    have hz : s.size = 0 := by rw [← hsl, hd]; rfl
    clear hd hsl
    go_enter Tryz.func20, Tryz.ntmps20
    go_wp2
    go_ret2
    exact splitPostC_none hp.out (Below.refl _ _)
  · by_cases hroot : r = [] ∧ x = 47
    · obtain ⟨rfl, rfl⟩ := hroot
      have hp : Hid (pathOf [47] = some []) := Lib.hid (by simp [pathOf])
      have h0 : s.toList = [47] := by rw [ByteArray.toList_eq]; exact hd
      clear hd hsl
      go_enter Tryz.func20, Tryz.ntmps20
      go_wp2
      go_ret2
      exact ⟨none, 0, by rw [hp.out]; rfl, by rw [hp.out]; exact StrsV.nil _ _, Below.refl _ _, by rw [hp.out]; exact Nat.le_refl _, by decide⟩
    · by_cases hgood : ¬ 120 < s.size ∧ x = 47
      · obtain ⟨h1, rfl⟩ := hgood
        have := refSplit_parts s h1 r hd (fun e => hroot ⟨e, rfl⟩) w
        rwa [hd] at this
      · have hp : Hid (pathOf (x :: r) = none) := Lib.hid (by
          by_cases h : 120 < s.size
          · exact pathOf_long (by rw [← hd, hsl]; exact h)
          · have hx : x ≠ 47 := fun e => hgood ⟨h, e⟩
            unfold pathOf
            split
            · rfl
            · simp [hx])
        have e1 : (s.toList == [47]) = false := by
          rw [ByteArray.toList_eq, beq_eq_false_iff_ne, hd]
          intro e
          injection e with e1 e2
          exact hroot ⟨e2, e1⟩
        have e2 : s.toList.isEmpty = false := by rw [ByteArray.toList_eq, hd]; rfl
        have e2' : ¬ s.toList = [] := by rw [ByteArray.toList_eq, hd]; simp
        by_cases h : 120 < s.size
        · clear hd hgood hroot hsl
          go_enter Tryz.func20, Tryz.ntmps20
          go_wp2
          go_ret2
          exact splitPostC_none hp.out (Below.refl _ _)
        · have h0 : 0 < s.size := by rw [← hsl, hd]; simp
          have e3 : ((s[0].toNat : Int) != 47) = true := by
            rw [bne_iff_ne]
            intro he
            obtain ⟨hk, hg⟩ := toList_get s 0 h0
            have h47 : s[0] = 47 := by rw [slash_iff]; omega
            rw [h47] at hg
            simp [hd] at hg
            exact hgood ⟨h, hg⟩
          clear hd hgood hroot hsl
          go_enter Tryz.func20, Tryz.ntmps20
          go_wp2
          go_ret2
          exact splitPostC_none hp.out (Below.refl _ _)
end Go.Proofs.YtfofjblkondnbaaGreatDoor.Ch

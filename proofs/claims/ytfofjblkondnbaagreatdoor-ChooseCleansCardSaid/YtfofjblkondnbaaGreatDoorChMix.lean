/- A region that draws its order, walked in ONE order of the prover's choice: operations that only read are taken (they yield the same in every world that meets S), the others are carried out one at a time, each at a time when nothing else may come up. -/
import Derived.Deep.RegionHeld3
import Derived.Deep.AppendLies
import Derived.StillTailTactics
namespace Go.Proofs.YtfofjblkondnbaaGreatDoor.Ch
section
variable {P : Program} {ops : Array Oper} {Q : Exit → Act → World → Prop} {md : Region.Mode} {S : World → Prop}

/-- May the region be walked in this order? 'true': carried out alone. -/
def mixB (md : Region.Mode) (ops : Array Oper) : List (Nat × Bool) → Array Bool → Bool
  | [], listed => (Region.ready md ops listed).isEmpty
  | (i, true) :: rest, listed => decide (Region.ready md ops listed = [i]) && mixB md ops rest (listed.setIfInBounds i true)
  | (i, false) :: rest, listed => (Region.ready md ops listed).contains i && Region.free md ops listed i && mixB md ops rest (listed.setIfInBounds i true)

/-- The walk in that order. -/
def wpMix (P : Program) (ops : Array Oper) (S : World → Prop) (Q : Exit → Act → World → Prop) : List (Option Oper × Bool) → Act → World → Prop
  | [], a, w => Q .normal a w
  | (none, _) :: _, _, _ => False
  | (some o, true) :: rest, a, w => if Region.wanted o (yielded ops a.tmps) = true then o.wp P a w (fun a' w' => S w' ∧ wpMix P ops S Q rest a' w') Q else wpMix P ops S Q rest (a.put o.dst undef) w
  | (some o, false) :: rest, a, w => ∃ v, YieldsIf P ops S o v a ∧ wpMix P ops S Q rest (a.put o.dst v) w

theorem wpAnyH_mix (hs : Region.noSelect ops = true) (hQ : ∀ d v c a w, Q (.panic c) (Act.put a d v) w → Q (.panic c) a w) :
    ∀ (ord : List (Nat × Bool)) (listed : Array Bool) (a : Act) (w : World), mixB md ops ord listed = true → S w → wpMix P ops S Q (ord.map fun p => (ops[p.1]?, p.2)) a w → wpAnyH P md ops Q S ord.length listed a w
  | [], listed, a, w, hB, _, h => ⟨by simpa [mixB] using hB, h⟩
  | (i, true) :: rest, listed, a, w, hB, hS, h => by
    simp only [mixB, Bool.and_eq_true, decide_eq_true_eq] at hB
    refine ⟨fun h0 => (by rw [hB.1] at h0; cases h0), fun j hj => ?_⟩
    rw [hB.1] at hj
    obtain rfl : j = i := by simpa using hj
    unfold wpOp
    cases hi : ops[j]? with
    | none => simp [wpMix, hi] at h
    | some o =>
      simp only [List.map_cons, hi, wpMix] at h
      split at h
      · rename_i hw
        simp only [hw, if_true]
        exact .inl (Oper.wp_mono (fun a' w' h' => ⟨h'.1, wpAnyH_mix hs hQ rest _ a' w' hB.2 h'.1 h'.2⟩) h)
      · rename_i hw
        simp only [if_neg hw]
        exact ⟨hS, wpAnyH_mix hs hQ rest _ _ w hB.2 hS h⟩
  | (i, false) :: rest, listed, a, w, hB, hS, h => by
    simp only [mixB, Bool.and_eq_true] at hB
    cases hi : ops[i]? with
    | none => simp [wpMix, hi] at h
    | some o =>
      simp only [List.map_cons, hi, wpMix] at h
      obtain ⟨v, hy, h⟩ := h
      exact wpAnyH_take hi hs hB.1.2 hB.1.1 (hQ o.dst v) hy hS (wpAnyH_mix hs hQ rest _ _ w hB.2 hS h)

/-- THE BEGINNING. -/
theorem wp_region_mix (S : World → Prop) (ord : List (Nat × Bool)) {id : Nat} {a : Act} {w : World} (hm : P.follows .mixedOrders = true) (hs : Region.noSelect ops = true) (hB : mixB .any ops ord (Array.replicate ops.size false) = true) (hn : ord.length = ops.size)
    (hQ : ∀ d v c a w, Q (.panic c) (Act.put a d v) w → Q (.panic c) a w) (hS : S w.drew) (h : wpMix P ops S Q (ord.map fun p => (ops[p.1]?, p.2)) a w.drew) : (Code.region id ops true).wp P Q a w :=
  wp_region_held_drew (S := S) hm hS fun hS' => by
    have := wpAnyH_mix (md := .any) hs hQ ord _ a w.drew hB hS' h
    rwa [hn] at this

theorem wpMix_take {o : Oper} {v : Value} {rest : List (Option Oper × Bool)} {a : Act} {w : World} (hw : Region.wanted o (yielded ops a.tmps) = true) (hy : ∀ w, S w → (execOp a.eval o).run P w = .ok (.value v) w)
    (h : wpMix P ops S Q rest (a.put o.dst v) w) : wpMix P ops S Q ((some o, false) :: rest) a w := ⟨v, .inl ⟨hw, hy⟩, h⟩
theorem wpMix_skip {o : Oper} {rest : List (Option Oper × Bool)} {a : Act} {w : World} (hw : Region.wanted o (yielded ops a.tmps) = false)
    (h : wpMix P ops S Q rest (a.put o.dst undef) w) : wpMix P ops S Q ((some o, false) :: rest) a w := ⟨undef, .inr ⟨hw, rfl⟩, h⟩
theorem wpMix_pass {o : Oper} {rest : List (Option Oper × Bool)} {a : Act} {w : World} (hw : Region.wanted o (yielded ops a.tmps) = false)
    (h : wpMix P ops S Q rest (a.put o.dst undef) w) : wpMix P ops S Q ((some o, true) :: rest) a w := by
  unfold wpMix
  rw [if_neg (by rw [hw]; exact Bool.false_ne_true)]
  exact h
theorem wpMix_carry {o : Oper} {rest : List (Option Oper × Bool)} {a : Act} {w : World} (hw : Region.wanted o (yielded ops a.tmps) = true)
    (h : ∀ K : Act → World → Prop, (∀ a' w', S w' → wpMix P ops S Q rest a' w' → K a' w') → o.wp P a w K Q) : wpMix P ops S Q ((some o, true) :: rest) a w := by
  unfold wpMix
  rw [if_pos hw]
  exact h _ fun _ _ h1 h2 => ⟨h1, h2⟩
theorem wpMix_nil {a : Act} {w : World} (h : Q .normal a w) : wpMix P ops S Q [] a w := h
end
end Go.Proofs.YtfofjblkondnbaaGreatDoor.Ch

/- From what a row lists of the library's variables to what the walks ask; a witness world; a list of texts that came in. -/
import Derived.Test.YtfofjblkondnbaaGreatDoorChHas
import Derived.Test.YtfofjblkondnbaaGreatDoorRows
import Derived.ProofKit
import Derived.OpenShut
import Derived.SliceStrings
import Derived.Stop.LaidErr
import Derived.Lib.LaidTab
import Derived.Lib.LaidU8
import Derived.Carry
namespace Go.Proofs.YtfofjblkondnbaaGreatDoor.Ch
open Go.ChangeShapes Go.WideShapes Go.ChangeAt Go.RowKit

theorem gLen : Tryz.prog.globalNamed "internal/bytealg.MaxLen" = some 0 := by kernel_rfl
theorem gSyn : Tryz.prog.globalNamed "strconv.ErrSyntax" = some 3 := by kernel_rfl
theorem gRng : Tryz.prog.globalNamed "strconv.ErrRange" = some 4 := by kernel_rfl
theorem gPow : Tryz.prog.globalNamed "internal/strconv.uint64pow10" = some 5 := by kernel_rfl
theorem gSynT : (Tryz.prog.globals[3]?).map (·.type) = some 270 := by kernel_rfl
theorem gRngT : (Tryz.prog.globals[4]?).map (·.type) = some 270 := by kernel_rfl
theorem gPowT : (Tryz.prog.globals[5]?).map (·.type) = some 336 := by kernel_rfl

theorem err_of_reads {W : World} {n : String} {g : Nat} {nm : String} {d : DataW Unit} (hg : Tryz.prog.globalNamed n = some g) (ht : (Tryz.prog.globals[g]?).map (·.type) = some 270)
    (h : Lib.VarReads Tryz.prog W n (.iface nm d)) : ∃ tp p, W.cell? ⟨g, 0, none⟩ = some (.iface tp p) := by
  obtain ⟨g', t', cs, fuel, p, h1, h2, h3, h4⟩ := h
  obtain rfl := Option.some.inj (hg.symm.trans h1)
  obtain rfl := Option.some.inj (ht.symm.trans h2)
  obtain ⟨f1, u, v, hcs, _, _⟩ := iface_of_trod Tryz.underlying270 h4
  have h0 := World.var?_cell hg h3 0
  rw [← Array.getElem?_toList, hcs] at h0
  exact ⟨u, v, by simpa using h0⟩

theorem tab_of_reads {W : World} {n : String} {g : Nat} {zs : List Int} (hg : Tryz.prog.globalNamed n = some g) (ht : (Tryz.prog.globals[g]?).map (·.type) = some 336)
    (h : Lib.VarReads Tryz.prog W n (Lib.tabData .u64 zs)) : Lib.TabIs Tryz.prog W n .u64 zs := by
  obtain ⟨g', t', cs, fuel, p, h1, h2, h3, h4⟩ := h
  obtain rfl := Option.some.inj (hg.symm.trans h1)
  obtain rfl := Option.some.inj (ht.symm.trans h2)
  unfold Lib.TabIs
  rw [h3, ← Lib.cells_of_tab Tryz.underlying336 Tryz.underlying266 (by kernel_rfl) (by kernel_rfl) h4]

theorem env_of {W : World} {l : List (String × DataW Unit)} {nm1 nm2 : String} {d1 d2 : DataW Unit} (hL : laidMet Tryz.prog l W) (hsh : W.ShapedOpen Tryz.prog)
    (h1 : ("strconv.ErrSyntax", .iface nm1 d1) ∈ l) (h2 : ("strconv.ErrRange", .iface nm2 d2) ∈ l) (h3 : ("internal/strconv.uint64pow10", Lib.tabData .u64 Lib.pow10Tab) ∈ l) : Env W where
  len := Tryz.laysM145.s1_3 W hsh
  syn := err_of_reads gSyn gSynT (Lib.laidMet.reads hL h1)
  rng := err_of_reads gRng gRngT (Lib.laidMet.reads hL h2)
  pow := tab_of_reads gPow gPowT (Lib.laidMet.reads hL h3)

theorem cellsStr : Tryz.prog.cellsOf 9 = 1 := by kernel_rfl

set_option maxRecDepth 100000 in
/-- A list of texts that came in: what it holds. -/
theorem opened {H : Type} {enc : TypeId × Value → H} {W : World} {base : Nat} {v : Value} {d : DataW H} {p : List MemPlace} {T : TypeId} (hT : T = 22)
    (hok : Value.okWide Tryz.prog W .any base T v) (h : DataW.Trod enc Tryz.prog W 0 (fun _ => true) true T v d p) :
    ∃ (A : Option Addr) (l : List Bs) (c : Nat), v = .slice A l.length c ∧ (∀ s ∈ l, s.length ≤ 9223372036854775807) ∧ StrsV W A l ∧
      ((d = .nil ∧ l = []) ∨ ∃ spare, d = .slice (l.map fun s => .lit (.string s)) spare) := by
  subst hT
  obtain ⟨a0, len, cap, rfl⟩ := okWide_slice Tryz.underlying22 hok
  obtain ⟨fuel, hf⟩ := h
  rcases open_strings Tryz.underlying22 Tryz.underlying9 cellsStr hf with ⟨hcs, hx⟩ | ⟨a, len', cap', ss, hcs, _, hl, hm, hz, hx, hcell, hws⟩
  · simp [Value.cells] at hcs
    obtain ⟨rfl, rfl, rfl⟩ := hcs
    simp only [Prod.mk.injEq] at hx
    exact ⟨none, [], 0, rfl, by simp, StrsV.nil _ _, .inl ⟨hx.1, rfl⟩⟩
  · simp [Value.cells] at hcs
    obtain ⟨rfl, rfl, rfl⟩ := hcs
    simp only [Prod.mk.injEq] at hx
    simp only [if_true] at hz
    unfold maxLen at hm
    have hlen : ((ss.take len).map fun s => s.data.toList).length = len := by simp; omega
    refine ⟨some a, (ss.take len).map fun s => s.data.toList, cap, by rw [hlen], ?_, ⟨by rw [hlen]; omega, fun hp => ?_⟩, .inr ⟨strs (ss.drop len), ?_⟩⟩
    · intro s hs
      obtain ⟨t, ht, rfl⟩ := List.mem_map.1 hs
      have := hws t (List.mem_of_mem_take ht)
      unfold maxLen at this
      simpa using this
    · rw [hlen] at hp
      obtain ⟨b, off, spot⟩ := a
      have hspot : spot = none := by simpa [Addr.add] using World.cell?_spot (hcell 0 (by omega))
      subst hspot
      refine ⟨b, off, rfl, fun j hj => ?_⟩
      rw [hlen] at hj
      have hc := hcell j (by omega)
      have ha : (⟨b, off, none⟩ : Addr).add j = ⟨b, off + j, none⟩ := by unfold Addr.add; split <;> simp_all
      rw [ha] at hc
      rw [hc]
      simp [List.getD_eq_getElem?_getD, show j < ss.length from by omega]
    · rw [hx.1]
      simp [strs]
      rfl

end Go.Proofs.YtfofjblkondnbaaGreatDoor.Ch

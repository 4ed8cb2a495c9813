/-
  DERIVED. GIVEN WITH THE SEED: THE CARDS: each row of YtfofjblkondnbaaGreatDoorRows.lean that lists a variable, with what it lists TIED to the program's text (the seventh form; the later family's looks); each row that meets fmt, with fmt's text TOLD by the authors' own Lean function (tested against real Go, not proved from fmt's source: count such statements apart). THE CARD IS WHAT COUNTS. Prove the row's statement (the work); the ties are given (YtfofjblkondnbaaGreatDoorTie.lean); close each card by the builder's one call (the guide's Derived/Test/ToyasCard.lean, 'card_holds'). Laid BY PROGRAM, IN A SANDBOX (cutbox-door.mjs). By AI agents, Wed Nov 11 2026. No macro, syntax, notation, axiom, sorry.
-/
import Derived.Test.YtfofjblkondnbaaGreatDoorRows
import GoSem.ClaimSeven
namespace Go.Proofs.YtfofjblkondnbaaGreatDoor
namespace Rows

/-- THE TIED CARD OF 'wardshiplaw14.ChooseAlike'. -/
def chooseAlikeCard : Claim7 := { stood := { row := chooseAlikeRow, standIns := [], harness := (true, "bd7edd7376f74307a5f6a05215e0c73ea839a7c4c6ff49b1c6a2cba20a41b5c9"), looks := true }, kinds := [], alts := [], laidByText := true, laidKinds := [.data, .data, .data, .data, .sentinel, .sentinel, .pinned], laidTests := true, laidLooks := .later }
def ChooseAlikeCardSaid : Prop := Claim7.holds Tryz.pinned (.plain (OpenSpec.ofChange chooseAlikeSpec)) chooseAlikeCard

/-- THE TIED CARD OF 'wardshiplaw14.ChooseUp'. -/
def chooseUpCard : Claim7 := { stood := { row := chooseUpRow, standIns := [], harness := (true, "bd7edd7376f74307a5f6a05215e0c73ea839a7c4c6ff49b1c6a2cba20a41b5c9"), looks := true }, kinds := [], alts := [], laidByText := true, laidKinds := [.data, .data, .data, .data, .sentinel, .sentinel, .pinned], laidTests := true, laidLooks := .later }
def ChooseUpCardSaid : Prop := Claim7.holds Tryz.pinned (.plain (OpenSpec.ofChange chooseUpSpec)) chooseUpCard

/-- THE TIED CARD OF 'wardshiplaw14.ChooseCleans'. -/
def chooseCleansCard : Claim7 := { stood := { row := chooseCleansRow, standIns := [], harness := (true, "bd7edd7376f74307a5f6a05215e0c73ea839a7c4c6ff49b1c6a2cba20a41b5c9"), looks := true }, kinds := [], alts := [], laidByText := true, laidKinds := [.data, .data, .data, .data, .sentinel, .sentinel, .pinned], laidTests := true, laidLooks := .later }
def ChooseCleansCardSaid : Prop := Claim7.holds Tryz.pinned (.plain (OpenSpec.ofChange chooseCleansSpec)) chooseCleansCard

/-- THE TIED CARD OF 'wardshiplaw18.SweepLater'. -/
def sweepLaterCard : Claim7 := { stood := { row := sweepLaterRow, standIns := [], harness := (true, "bd7edd7376f74307a5f6a05215e0c73ea839a7c4c6ff49b1c6a2cba20a41b5c9"), looks := true }, kinds := [], alts := [], laidByText := true, laidKinds := [.data, .data, .data], laidTests := true, laidLooks := .later }
def SweepLaterCardSaid : Prop := Claim7.holds Tryz.pinned (.plain (OpenSpec.ofChange sweepLaterSpec)) sweepLaterCard

/-- THE TIED CARD OF 'wardshiplaw13.ViewFinds'. -/
def viewFindsCard : Claim7 := { stood := { row := viewFindsRow, standIns := [], harness := (true, "bd7edd7376f74307a5f6a05215e0c73ea839a7c4c6ff49b1c6a2cba20a41b5c9"), looks := true }, kinds := [], alts := [], laidByText := true, laidKinds := [.data, .data, .data, .data, .sentinel, .sentinel, .pinned], laidTests := true, laidLooks := .later }
def ViewFindsCardSaid : Prop := Claim7.holds Tryz.pinned (.plain (OpenSpec.ofChange viewFindsSpec)) viewFindsCard

/-- THE TIED CARD OF 'wardshiplaw13.ViewOnce'. -/
def viewOnceCard : Claim7 := { stood := { row := viewOnceRow, standIns := [], harness := (true, "bd7edd7376f74307a5f6a05215e0c73ea839a7c4c6ff49b1c6a2cba20a41b5c9"), looks := true }, kinds := [], alts := [], laidByText := true, laidKinds := [.data, .data, .data, .data, .sentinel, .sentinel, .pinned], laidTests := true, laidLooks := .later }
def ViewOnceCardSaid : Prop := Claim7.holds Tryz.pinned (.plain (OpenSpec.ofChange viewOnceSpec)) viewOnceCard

/-- THE TIED CARD OF 'wardshiplaw13.ViewLast'. -/
def viewLastCard : Claim7 := { stood := { row := viewLastRow, standIns := [], harness := (true, "bd7edd7376f74307a5f6a05215e0c73ea839a7c4c6ff49b1c6a2cba20a41b5c9"), looks := true }, kinds := [], alts := [], laidByText := true, laidKinds := [.data, .data, .data, .data, .sentinel, .sentinel, .pinned], laidTests := true, laidLooks := .later }
def ViewLastCardSaid : Prop := Claim7.holds Tryz.pinned (.plain (OpenSpec.ofChange viewLastSpec)) viewLastCard

/-- THE TIED CARD OF 'wardshiplaw13.ViewWalks'. -/
def viewWalksCard : Claim7 := { stood := { row := viewWalksRow, standIns := [], harness := (true, "bd7edd7376f74307a5f6a05215e0c73ea839a7c4c6ff49b1c6a2cba20a41b5c9"), looks := true }, kinds := [], alts := [], laidByText := true, laidKinds := [.data, .data, .data, .data, .sentinel, .sentinel, .pinned], laidTests := true, laidLooks := .later }
def ViewWalksCardSaid : Prop := Claim7.holds Tryz.pinned (.plain (OpenSpec.ofChange viewWalksSpec)) viewWalksCard

/-- THE TIED CARD OF 'wardshiplaw13.ViewPaths'. -/
def viewPathsCard : Claim7 := { stood := { row := viewPathsRow, standIns := [], harness := (true, "bd7edd7376f74307a5f6a05215e0c73ea839a7c4c6ff49b1c6a2cba20a41b5c9"), looks := true }, kinds := [], alts := [], laidByText := true, laidKinds := [.data, .data, .data, .data, .sentinel, .sentinel, .pinned], laidTests := true, laidLooks := .later }
def ViewPathsCardSaid : Prop := Claim7.holds Tryz.pinned (.plain (OpenSpec.ofChange viewPathsSpec)) viewPathsCard

/-- THE TIED CARD OF 'wardshiplaw18.SweepSees'. -/
def sweepSeesCard : Claim7 := { stood := { row := sweepSeesRow, standIns := [], harness := (true, "bd7edd7376f74307a5f6a05215e0c73ea839a7c4c6ff49b1c6a2cba20a41b5c9"), looks := true }, kinds := [], alts := [], laidByText := true, laidKinds := [.data, .data, .data, .data, .sentinel, .sentinel, .pinned], laidTests := true, laidLooks := .later }
def SweepSeesCardSaid : Prop := Claim7.holds Tryz.pinned (.plain (OpenSpec.ofChange sweepSeesSpec)) sweepSeesCard

/-- THE TIED CARD OF 'wardshiplaw15.VolumeTwice'. -/
def volumeTwiceCard : Claim7 := { stood := { row := volumeTwiceRow, standIns := [], harness := (true, "bd7edd7376f74307a5f6a05215e0c73ea839a7c4c6ff49b1c6a2cba20a41b5c9"), looks := true }, kinds := [], alts := [], laidByText := true, laidKinds := [.data, .data, .data, .data, .sentinel, .sentinel, .pinned], laidTests := true, laidLooks := .later }
def VolumeTwiceCardSaid : Prop := Claim7.holds Tryz.pinned (.plain (OpenSpec.ofChange volumeTwiceSpec)) volumeTwiceCard

/-- THE SECOND FORM's CARD OF 'wardshiplaw14.ChooseAlike'. -/
def chooseAlikeUptoCard : Claim7 := { stood := { row := chooseAlikeUptoRow, standIns := [], harness := (true, "bd7edd7376f74307a5f6a05215e0c73ea839a7c4c6ff49b1c6a2cba20a41b5c9"), looks := true }, kinds := [], alts := [], laidByText := true, laidKinds := [.data, .data, .data, .data, .sentinel, .sentinel, .pinned], laidTests := true, laidLooks := .later }
def ChooseAlikeUptoCardSaid : Prop := Claim7.holds Tryz.pinned (.plain (OpenSpec.upto chooseAlikeSpec)) chooseAlikeUptoCard

/-- THE SECOND FORM's CARD OF 'wardshiplaw14.ChooseUp'. -/
def chooseUpUptoCard : Claim7 := { stood := { row := chooseUpUptoRow, standIns := [], harness := (true, "bd7edd7376f74307a5f6a05215e0c73ea839a7c4c6ff49b1c6a2cba20a41b5c9"), looks := true }, kinds := [], alts := [], laidByText := true, laidKinds := [.data, .data, .data, .data, .sentinel, .sentinel, .pinned], laidTests := true, laidLooks := .later }
def ChooseUpUptoCardSaid : Prop := Claim7.holds Tryz.pinned (.plain (OpenSpec.upto chooseUpSpec)) chooseUpUptoCard

/-- THE SECOND FORM's CARD OF 'wardshiplaw14.ChooseCleans'. -/
def chooseCleansUptoCard : Claim7 := { stood := { row := chooseCleansUptoRow, standIns := [], harness := (true, "bd7edd7376f74307a5f6a05215e0c73ea839a7c4c6ff49b1c6a2cba20a41b5c9"), looks := true }, kinds := [], alts := [], laidByText := true, laidKinds := [.data, .data, .data, .data, .sentinel, .sentinel, .pinned], laidTests := true, laidLooks := .later }
def ChooseCleansUptoCardSaid : Prop := Claim7.holds Tryz.pinned (.plain (OpenSpec.upto chooseCleansSpec)) chooseCleansUptoCard

/-- THE SECOND FORM's CARD OF 'wardshiplaw18.SweepLater'. -/
def sweepLaterUptoCard : Claim7 := { stood := { row := sweepLaterUptoRow, standIns := [], harness := (true, "bd7edd7376f74307a5f6a05215e0c73ea839a7c4c6ff49b1c6a2cba20a41b5c9"), looks := true }, kinds := [], alts := [], laidByText := true, laidKinds := [.data, .data, .data], laidTests := true, laidLooks := .later }
def SweepLaterUptoCardSaid : Prop := Claim7.holds Tryz.pinned (.plain (OpenSpec.upto sweepLaterSpec)) sweepLaterUptoCard

/-- THE SECOND FORM's CARD OF 'wardshiplaw13.ViewFinds'. -/
def viewFindsUptoCard : Claim7 := { stood := { row := viewFindsUptoRow, standIns := [], harness := (true, "bd7edd7376f74307a5f6a05215e0c73ea839a7c4c6ff49b1c6a2cba20a41b5c9"), looks := true }, kinds := [], alts := [], laidByText := true, laidKinds := [.data, .data, .data, .data, .sentinel, .sentinel, .pinned], laidTests := true, laidLooks := .later }
def ViewFindsUptoCardSaid : Prop := Claim7.holds Tryz.pinned (.plain (OpenSpec.upto viewFindsSpec)) viewFindsUptoCard

/-- THE SECOND FORM's CARD OF 'wardshiplaw13.ViewOnce'. -/
def viewOnceUptoCard : Claim7 := { stood := { row := viewOnceUptoRow, standIns := [], harness := (true, "bd7edd7376f74307a5f6a05215e0c73ea839a7c4c6ff49b1c6a2cba20a41b5c9"), looks := true }, kinds := [], alts := [], laidByText := true, laidKinds := [.data, .data, .data, .data, .sentinel, .sentinel, .pinned], laidTests := true, laidLooks := .later }
def ViewOnceUptoCardSaid : Prop := Claim7.holds Tryz.pinned (.plain (OpenSpec.upto viewOnceSpec)) viewOnceUptoCard

/-- THE SECOND FORM's CARD OF 'wardshiplaw13.ViewLast'. -/
def viewLastUptoCard : Claim7 := { stood := { row := viewLastUptoRow, standIns := [], harness := (true, "bd7edd7376f74307a5f6a05215e0c73ea839a7c4c6ff49b1c6a2cba20a41b5c9"), looks := true }, kinds := [], alts := [], laidByText := true, laidKinds := [.data, .data, .data, .data, .sentinel, .sentinel, .pinned], laidTests := true, laidLooks := .later }
def ViewLastUptoCardSaid : Prop := Claim7.holds Tryz.pinned (.plain (OpenSpec.upto viewLastSpec)) viewLastUptoCard

/-- THE SECOND FORM's CARD OF 'wardshiplaw13.ViewWalks'. -/
def viewWalksUptoCard : Claim7 := { stood := { row := viewWalksUptoRow, standIns := [], harness := (true, "bd7edd7376f74307a5f6a05215e0c73ea839a7c4c6ff49b1c6a2cba20a41b5c9"), looks := true }, kinds := [], alts := [], laidByText := true, laidKinds := [.data, .data, .data, .data, .sentinel, .sentinel, .pinned], laidTests := true, laidLooks := .later }
def ViewWalksUptoCardSaid : Prop := Claim7.holds Tryz.pinned (.plain (OpenSpec.upto viewWalksSpec)) viewWalksUptoCard

/-- THE SECOND FORM's CARD OF 'wardshiplaw13.ViewPaths'. -/
def viewPathsUptoCard : Claim7 := { stood := { row := viewPathsUptoRow, standIns := [], harness := (true, "bd7edd7376f74307a5f6a05215e0c73ea839a7c4c6ff49b1c6a2cba20a41b5c9"), looks := true }, kinds := [], alts := [], laidByText := true, laidKinds := [.data, .data, .data, .data, .sentinel, .sentinel, .pinned], laidTests := true, laidLooks := .later }
def ViewPathsUptoCardSaid : Prop := Claim7.holds Tryz.pinned (.plain (OpenSpec.upto viewPathsSpec)) viewPathsUptoCard

/-- THE SECOND FORM's CARD OF 'wardshiplaw18.SweepSees'. -/
def sweepSeesUptoCard : Claim7 := { stood := { row := sweepSeesUptoRow, standIns := [], harness := (true, "bd7edd7376f74307a5f6a05215e0c73ea839a7c4c6ff49b1c6a2cba20a41b5c9"), looks := true }, kinds := [], alts := [], laidByText := true, laidKinds := [.data, .data, .data, .data, .sentinel, .sentinel, .pinned], laidTests := true, laidLooks := .later }
def SweepSeesUptoCardSaid : Prop := Claim7.holds Tryz.pinned (.plain (OpenSpec.upto sweepSeesSpec)) sweepSeesUptoCard

/-- THE SECOND FORM's CARD OF 'wardshiplaw15.VolumeTwice'. -/
def volumeTwiceUptoCard : Claim7 := { stood := { row := volumeTwiceUptoRow, standIns := [], harness := (true, "bd7edd7376f74307a5f6a05215e0c73ea839a7c4c6ff49b1c6a2cba20a41b5c9"), looks := true }, kinds := [], alts := [], laidByText := true, laidKinds := [.data, .data, .data, .data, .sentinel, .sentinel, .pinned], laidTests := true, laidLooks := .later }
def VolumeTwiceUptoCardSaid : Prop := Claim7.holds Tryz.pinned (.plain (OpenSpec.upto volumeTwiceSpec)) volumeTwiceUptoCard
end Rows
end Go.Proofs.YtfofjblkondnbaaGreatDoor

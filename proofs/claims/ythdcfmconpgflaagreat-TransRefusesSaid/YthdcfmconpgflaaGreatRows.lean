/-
  No cell of these rows narrows 'for every input' (looked for: loops, veiled, ifaces, maps, wideKeys, modest, calm, conditions, laid).
  DERIVED. THE GIVEN ROWS OF THIS SEAT. 19 by the template 'for every input the law returns true; each argument reads behind the call as it read before'; 0 by the template 'total and deterministic' (their statements: YthdcfmconpgflaaGreatTotals.lean).
  GIVEN WITH THE SEED: the statements are not yours to turn. If you find one false, say at which input.
  Laid BY PROGRAM, IN A SANDBOX (cutbox-rows.mjs): the forced cells as the released guide's own fill.sh prints them over the translation 84859f4b7acc35d6… (all of the seat's roots in one cut). By AI agents, Wed Nov 11 2026. No macro, syntax, notation, axiom, sorry.
-/
import Derived.Test.YthdcfmconpgflaaGreatChecked
import GoSem.Claim
import GoSem.ClaimJoined
import GoSem.ClaimMapViews
import Derived.JoinedTies
import Derived.KernelRfl
namespace Go.Proofs.YthdcfmconpgflaaGreat
/- THE CELL 'sum', in the pinned program and in every row, IS THE sha256 OF THE DUMP (.gsa) THAT YthdcfmconpgflaaGreatProg.lean LOADS. Nothing in Lean hashes anything: it is a label: what it is worth is what the hold of that sum in a sandbox is worth. -/
noncomputable def Tryz.pinned : Pinned := { name := "ythdcfmconpgflaagreat", sum := "84859f4b7acc35d64f0a552c1ea178ec934e9a8f31b4783d89ccb6022f13fde2", checked := Tryz.checked }
namespace Rows
def none {H : Type} : Left H := { results := [], args := [] }

/-- 'pilcrowlaw18.CodecMachines': WHATEVER THE INPUT: true; the input reads as it did. -/
def codecMachinesSpec : ChangeSpec := { name := "codecMachines", fn := fun _ => fun
  | [d1, d2, d3] => { results := [.lit (.bool true)], args := [d1, d2, d3] }
  | _ => none }
def codecMachinesRow : OpenClaim := { program := "ythdcfmconpgflaagreat", sum := "84859f4b7acc35d64f0a552c1ea178ec934e9a8f31b4783d89ccb6022f13fde2", func := "pilcrow/pilcrowlaw18.CodecMachines", spec := "codecMachines", inPlace := ["internal/abi.NoEscape"], unfollowed := true, recurses := true, apart := false }
def CodecMachinesSaid : Prop := codecMachinesRow.holds Tryz.pinned (OpenSpec.ofChange codecMachinesSpec)

/-- ITS FALSE NEIGHBOUR: 'it returns false'. Refute it at one input. -/
def codecMachinesWrong : ChangeSpec := { name := "codecMachines", fn := fun _ => fun
  | [d1, d2, d3] => { results := [.lit (.bool false)], args := [d1, d2, d3] }
  | _ => none }
def CodecMachinesWrongFalsely : Prop := codecMachinesRow.holds Tryz.pinned (OpenSpec.ofChange codecMachinesWrong)

/-- 'pilcrowlaw18.CodecFirst': WHATEVER THE INPUT: true; the input reads as it did. -/
def codecFirstSpec : ChangeSpec := { name := "codecFirst", fn := fun _ => fun
  | [d1, d2] => { results := [.lit (.bool true)], args := [d1, d2] }
  | _ => none }
def codecFirstRow : OpenClaim := { program := "ythdcfmconpgflaagreat", sum := "84859f4b7acc35d64f0a552c1ea178ec934e9a8f31b4783d89ccb6022f13fde2", func := "pilcrow/pilcrowlaw18.CodecFirst", spec := "codecFirst", inPlace := ["internal/abi.NoEscape"], unfollowed := true, recurses := true, apart := false }
def CodecFirstSaid : Prop := codecFirstRow.holds Tryz.pinned (OpenSpec.ofChange codecFirstSpec)

/-- ITS FALSE NEIGHBOUR: 'it returns false'. Refute it at one input. -/
def codecFirstWrong : ChangeSpec := { name := "codecFirst", fn := fun _ => fun
  | [d1, d2] => { results := [.lit (.bool false)], args := [d1, d2] }
  | _ => none }
def CodecFirstWrongFalsely : Prop := codecFirstRow.holds Tryz.pinned (OpenSpec.ofChange codecFirstWrong)

/-- 'pilcrowlaw19.PumpReads': WHATEVER THE INPUT: true; the input reads as it did. -/
def pumpReadsSpec : ChangeSpec := { name := "pumpReads", fn := fun _ => fun
  | [d1, d2, d3] => { results := [.lit (.bool true)], args := [d1, d2, d3] }
  | _ => none }
def pumpReadsRow : OpenClaim := { program := "ythdcfmconpgflaagreat", sum := "84859f4b7acc35d64f0a552c1ea178ec934e9a8f31b4783d89ccb6022f13fde2", func := "pilcrow/pilcrowlaw19.PumpReads", spec := "pumpReads", inPlace := ["internal/abi.NoEscape"], unfollowed := true, recurses := true, apart := false }
def PumpReadsSaid : Prop := pumpReadsRow.holds Tryz.pinned (OpenSpec.ofChange pumpReadsSpec)

/-- ITS FALSE NEIGHBOUR: 'it returns false'. Refute it at one input. -/
def pumpReadsWrong : ChangeSpec := { name := "pumpReads", fn := fun _ => fun
  | [d1, d2, d3] => { results := [.lit (.bool false)], args := [d1, d2, d3] }
  | _ => none }
def PumpReadsWrongFalsely : Prop := pumpReadsRow.holds Tryz.pinned (OpenSpec.ofChange pumpReadsWrong)

/-- 'pilcrowlaw19.PumpWrites': WHATEVER THE INPUT: true; the input reads as it did. -/
def pumpWritesSpec : ChangeSpec := { name := "pumpWrites", fn := fun _ => fun
  | [d1, d2, d3] => { results := [.lit (.bool true)], args := [d1, d2, d3] }
  | _ => none }
def pumpWritesRow : OpenClaim := { program := "ythdcfmconpgflaagreat", sum := "84859f4b7acc35d64f0a552c1ea178ec934e9a8f31b4783d89ccb6022f13fde2", func := "pilcrow/pilcrowlaw19.PumpWrites", spec := "pumpWrites", inPlace := ["internal/abi.NoEscape"], unfollowed := true, recurses := true, apart := false }
def PumpWritesSaid : Prop := pumpWritesRow.holds Tryz.pinned (OpenSpec.ofChange pumpWritesSpec)

/-- ITS FALSE NEIGHBOUR: 'it returns false'. Refute it at one input. -/
def pumpWritesWrong : ChangeSpec := { name := "pumpWrites", fn := fun _ => fun
  | [d1, d2, d3] => { results := [.lit (.bool false)], args := [d1, d2, d3] }
  | _ => none }
def PumpWritesWrongFalsely : Prop := pumpWritesRow.holds Tryz.pinned (OpenSpec.ofChange pumpWritesWrong)

/-- 'pilcrowlaw19.PumpSteps': WHATEVER THE INPUT: true; the input reads as it did. -/
def pumpStepsSpec : ChangeSpec := { name := "pumpSteps", fn := fun _ => fun
  | [d1, d2, d3] => { results := [.lit (.bool true)], args := [d1, d2, d3] }
  | _ => none }
def pumpStepsRow : OpenClaim := { program := "ythdcfmconpgflaagreat", sum := "84859f4b7acc35d64f0a552c1ea178ec934e9a8f31b4783d89ccb6022f13fde2", func := "pilcrow/pilcrowlaw19.PumpSteps", spec := "pumpSteps", inPlace := ["internal/abi.NoEscape"], unfollowed := true, recurses := true, apart := false }
def PumpStepsSaid : Prop := pumpStepsRow.holds Tryz.pinned (OpenSpec.ofChange pumpStepsSpec)

/-- ITS FALSE NEIGHBOUR: 'it returns false'. Refute it at one input. -/
def pumpStepsWrong : ChangeSpec := { name := "pumpSteps", fn := fun _ => fun
  | [d1, d2, d3] => { results := [.lit (.bool false)], args := [d1, d2, d3] }
  | _ => none }
def PumpStepsWrongFalsely : Prop := pumpStepsRow.holds Tryz.pinned (OpenSpec.ofChange pumpStepsWrong)

/-- 'pilcrowlaw19.PumpBack': WHATEVER THE INPUT: true; the input reads as it did. -/
def pumpBackSpec : ChangeSpec := { name := "pumpBack", fn := fun _ => fun
  | [d1, d2, d3] => { results := [.lit (.bool true)], args := [d1, d2, d3] }
  | _ => none }
def pumpBackRow : OpenClaim := { program := "ythdcfmconpgflaagreat", sum := "84859f4b7acc35d64f0a552c1ea178ec934e9a8f31b4783d89ccb6022f13fde2", func := "pilcrow/pilcrowlaw19.PumpBack", spec := "pumpBack", inPlace := ["internal/abi.NoEscape"], unfollowed := true, recurses := true, apart := false }
def PumpBackSaid : Prop := pumpBackRow.holds Tryz.pinned (OpenSpec.ofChange pumpBackSpec)

/-- ITS FALSE NEIGHBOUR: 'it returns false'. Refute it at one input. -/
def pumpBackWrong : ChangeSpec := { name := "pumpBack", fn := fun _ => fun
  | [d1, d2, d3] => { results := [.lit (.bool false)], args := [d1, d2, d3] }
  | _ => none }
def PumpBackWrongFalsely : Prop := pumpBackRow.holds Tryz.pinned (OpenSpec.ofChange pumpBackWrong)

/-- 'pilcrowlaw19.PumpAlike': WHATEVER THE INPUT: true; the input reads as it did. -/
def pumpAlikeSpec : ChangeSpec := { name := "pumpAlike", fn := fun _ => fun
  | [d1, d2, d3] => { results := [.lit (.bool true)], args := [d1, d2, d3] }
  | _ => none }
def pumpAlikeRow : OpenClaim := { program := "ythdcfmconpgflaagreat", sum := "84859f4b7acc35d64f0a552c1ea178ec934e9a8f31b4783d89ccb6022f13fde2", func := "pilcrow/pilcrowlaw19.PumpAlike", spec := "pumpAlike", inPlace := ["internal/abi.NoEscape"], unfollowed := true, recurses := true, apart := false }
def PumpAlikeSaid : Prop := pumpAlikeRow.holds Tryz.pinned (OpenSpec.ofChange pumpAlikeSpec)

/-- ITS FALSE NEIGHBOUR: 'it returns false'. Refute it at one input. -/
def pumpAlikeWrong : ChangeSpec := { name := "pumpAlike", fn := fun _ => fun
  | [d1, d2, d3] => { results := [.lit (.bool false)], args := [d1, d2, d3] }
  | _ => none }
def PumpAlikeWrongFalsely : Prop := pumpAlikeRow.holds Tryz.pinned (OpenSpec.ofChange pumpAlikeWrong)

/-- 'pilcrowlaw25.TransTexts': WHATEVER THE INPUT: true; the input reads as it did. -/
def transTextsSpec : ChangeSpec := { name := "transTexts", fn := fun _ => fun
  | [d1, d2] => { results := [.lit (.bool true)], args := [d1, d2] }
  | _ => none }
def transTextsRow : OpenClaim := { program := "ythdcfmconpgflaagreat", sum := "84859f4b7acc35d64f0a552c1ea178ec934e9a8f31b4783d89ccb6022f13fde2", func := "pilcrow/pilcrowlaw25.TransTexts", spec := "transTexts", inPlace := ["internal/abi.NoEscape"], unfollowed := true, recurses := true, apart := false }
def TransTextsSaid : Prop := transTextsRow.holds Tryz.pinned (OpenSpec.ofChange transTextsSpec)

/-- ITS FALSE NEIGHBOUR: 'it returns false'. Refute it at one input. -/
def transTextsWrong : ChangeSpec := { name := "transTexts", fn := fun _ => fun
  | [d1, d2] => { results := [.lit (.bool false)], args := [d1, d2] }
  | _ => none }
def TransTextsWrongFalsely : Prop := transTextsRow.holds Tryz.pinned (OpenSpec.ofChange transTextsWrong)

/-- 'pilcrowlaw25.TransHeld': WHATEVER THE INPUT: true; the input reads as it did. -/
def transHeldSpec : ChangeSpec := { name := "transHeld", fn := fun _ => fun
  | [d1, d2, d3] => { results := [.lit (.bool true)], args := [d1, d2, d3] }
  | _ => none }
def transHeldRow : OpenClaim := { program := "ythdcfmconpgflaagreat", sum := "84859f4b7acc35d64f0a552c1ea178ec934e9a8f31b4783d89ccb6022f13fde2", func := "pilcrow/pilcrowlaw25.TransHeld", spec := "transHeld", inPlace := ["internal/abi.NoEscape"], unfollowed := true, recurses := true, apart := false }
def TransHeldSaid : Prop := transHeldRow.holds Tryz.pinned (OpenSpec.ofChange transHeldSpec)

/-- ITS FALSE NEIGHBOUR: 'it returns false'. Refute it at one input. -/
def transHeldWrong : ChangeSpec := { name := "transHeld", fn := fun _ => fun
  | [d1, d2, d3] => { results := [.lit (.bool false)], args := [d1, d2, d3] }
  | _ => none }
def TransHeldWrongFalsely : Prop := transHeldRow.holds Tryz.pinned (OpenSpec.ofChange transHeldWrong)

/-- 'pilcrowlaw25.TransRefuses': WHATEVER THE INPUT: true; the input reads as it did. -/
def transRefusesSpec : ChangeSpec := { name := "transRefuses", fn := fun _ => fun
  | [d1, d2, d3] => { results := [.lit (.bool true)], args := [d1, d2, d3] }
  | _ => none }
def transRefusesRow : OpenClaim := { program := "ythdcfmconpgflaagreat", sum := "84859f4b7acc35d64f0a552c1ea178ec934e9a8f31b4783d89ccb6022f13fde2", func := "pilcrow/pilcrowlaw25.TransRefuses", spec := "transRefuses", inPlace := ["internal/abi.NoEscape"], unfollowed := true, recurses := true, apart := false }
def TransRefusesSaid : Prop := transRefusesRow.holds Tryz.pinned (OpenSpec.ofChange transRefusesSpec)

/-- ITS FALSE NEIGHBOUR: 'it returns false'. Refute it at one input. -/
def transRefusesWrong : ChangeSpec := { name := "transRefuses", fn := fun _ => fun
  | [d1, d2, d3] => { results := [.lit (.bool false)], args := [d1, d2, d3] }
  | _ => none }
def TransRefusesWrongFalsely : Prop := transRefusesRow.holds Tryz.pinned (OpenSpec.ofChange transRefusesWrong)

/-- 'pilcrowlaw25.TransChains': WHATEVER THE INPUT: true; the input reads as it did. -/
def transChainsSpec : ChangeSpec := { name := "transChains", fn := fun _ => fun
  | [d1, d2] => { results := [.lit (.bool true)], args := [d1, d2] }
  | _ => none }
def transChainsRow : OpenClaim := { program := "ythdcfmconpgflaagreat", sum := "84859f4b7acc35d64f0a552c1ea178ec934e9a8f31b4783d89ccb6022f13fde2", func := "pilcrow/pilcrowlaw25.TransChains", spec := "transChains", inPlace := ["internal/abi.NoEscape"], unfollowed := true, recurses := true, apart := false }
def TransChainsSaid : Prop := transChainsRow.holds Tryz.pinned (OpenSpec.ofChange transChainsSpec)

/-- ITS FALSE NEIGHBOUR: 'it returns false'. Refute it at one input. -/
def transChainsWrong : ChangeSpec := { name := "transChains", fn := fun _ => fun
  | [d1, d2] => { results := [.lit (.bool false)], args := [d1, d2] }
  | _ => none }
def TransChainsWrongFalsely : Prop := transChainsRow.holds Tryz.pinned (OpenSpec.ofChange transChainsWrong)

/-- 'pilcrowlaw25.TransBack': WHATEVER THE INPUT: true; the input reads as it did. -/
def transBackSpec : ChangeSpec := { name := "transBack", fn := fun _ => fun
  | [d1, d2] => { results := [.lit (.bool true)], args := [d1, d2] }
  | _ => none }
def transBackRow : OpenClaim := { program := "ythdcfmconpgflaagreat", sum := "84859f4b7acc35d64f0a552c1ea178ec934e9a8f31b4783d89ccb6022f13fde2", func := "pilcrow/pilcrowlaw25.TransBack", spec := "transBack", inPlace := ["internal/abi.NoEscape"], unfollowed := true, recurses := true, apart := false }
def TransBackSaid : Prop := transBackRow.holds Tryz.pinned (OpenSpec.ofChange transBackSpec)

/-- ITS FALSE NEIGHBOUR: 'it returns false'. Refute it at one input. -/
def transBackWrong : ChangeSpec := { name := "transBack", fn := fun _ => fun
  | [d1, d2] => { results := [.lit (.bool false)], args := [d1, d2] }
  | _ => none }
def TransBackWrongFalsely : Prop := transBackRow.holds Tryz.pinned (OpenSpec.ofChange transBackWrong)

/-- 'pilcrowlaw20.BlockMakes': WHATEVER THE INPUT: true; the input reads as it did. -/
def blockMakesSpec : ChangeSpec := { name := "blockMakes", fn := fun _ => fun
  | [d1, d2] => { results := [.lit (.bool true)], args := [d1, d2] }
  | _ => none }
def blockMakesRow : OpenClaim := { program := "ythdcfmconpgflaagreat", sum := "84859f4b7acc35d64f0a552c1ea178ec934e9a8f31b4783d89ccb6022f13fde2", func := "pilcrow/pilcrowlaw20.BlockMakes", spec := "blockMakes", inPlace := ["internal/abi.NoEscape"], unfollowed := true, recurses := true, apart := false }
def BlockMakesSaid : Prop := blockMakesRow.holds Tryz.pinned (OpenSpec.ofChange blockMakesSpec)

/-- ITS FALSE NEIGHBOUR: 'it returns false'. Refute it at one input. -/
def blockMakesWrong : ChangeSpec := { name := "blockMakes", fn := fun _ => fun
  | [d1, d2] => { results := [.lit (.bool false)], args := [d1, d2] }
  | _ => none }
def BlockMakesWrongFalsely : Prop := blockMakesRow.holds Tryz.pinned (OpenSpec.ofChange blockMakesWrong)

/-- 'pilcrowlaw20.BlockBytes': WHATEVER THE INPUT: true; the input reads as it did. -/
def blockBytesSpec : ChangeSpec := { name := "blockBytes", fn := fun _ => fun
  | [d] => { results := [.lit (.bool true)], args := [d] }
  | _ => none }
def blockBytesRow : OpenClaim := { program := "ythdcfmconpgflaagreat", sum := "84859f4b7acc35d64f0a552c1ea178ec934e9a8f31b4783d89ccb6022f13fde2", func := "pilcrow/pilcrowlaw20.BlockBytes", spec := "blockBytes", inPlace := ["internal/abi.NoEscape"], unfollowed := true, recurses := true, apart := false }
def BlockBytesSaid : Prop := blockBytesRow.holds Tryz.pinned (OpenSpec.ofChange blockBytesSpec)

/-- ITS FALSE NEIGHBOUR: 'it returns false'. Refute it at one input. -/
def blockBytesWrong : ChangeSpec := { name := "blockBytes", fn := fun _ => fun
  | [d] => { results := [.lit (.bool false)], args := [d] }
  | _ => none }
def BlockBytesWrongFalsely : Prop := blockBytesRow.holds Tryz.pinned (OpenSpec.ofChange blockBytesWrong)

/-- 'pilcrowlaw20.BlockReads': WHATEVER THE INPUT: true; the input reads as it did. -/
def blockReadsSpec : ChangeSpec := { name := "blockReads", fn := fun _ => fun
  | [d1, d2] => { results := [.lit (.bool true)], args := [d1, d2] }
  | _ => none }
def blockReadsRow : OpenClaim := { program := "ythdcfmconpgflaagreat", sum := "84859f4b7acc35d64f0a552c1ea178ec934e9a8f31b4783d89ccb6022f13fde2", func := "pilcrow/pilcrowlaw20.BlockReads", spec := "blockReads", inPlace := ["internal/abi.NoEscape"], unfollowed := true, recurses := true, apart := false }
def BlockReadsSaid : Prop := blockReadsRow.holds Tryz.pinned (OpenSpec.ofChange blockReadsSpec)

/-- ITS FALSE NEIGHBOUR: 'it returns false'. Refute it at one input. -/
def blockReadsWrong : ChangeSpec := { name := "blockReads", fn := fun _ => fun
  | [d1, d2] => { results := [.lit (.bool false)], args := [d1, d2] }
  | _ => none }
def BlockReadsWrongFalsely : Prop := blockReadsRow.holds Tryz.pinned (OpenSpec.ofChange blockReadsWrong)

/-- 'pilcrowlaw20.BlockOpens': WHATEVER THE INPUT: true; the input reads as it did. -/
def blockOpensSpec : ChangeSpec := { name := "blockOpens", fn := fun _ => fun
  | [d1, d2] => { results := [.lit (.bool true)], args := [d1, d2] }
  | _ => none }
def blockOpensRow : OpenClaim := { program := "ythdcfmconpgflaagreat", sum := "84859f4b7acc35d64f0a552c1ea178ec934e9a8f31b4783d89ccb6022f13fde2", func := "pilcrow/pilcrowlaw20.BlockOpens", spec := "blockOpens", inPlace := ["internal/abi.NoEscape"], unfollowed := true, recurses := true, apart := false }
def BlockOpensSaid : Prop := blockOpensRow.holds Tryz.pinned (OpenSpec.ofChange blockOpensSpec)

/-- ITS FALSE NEIGHBOUR: 'it returns false'. Refute it at one input. -/
def blockOpensWrong : ChangeSpec := { name := "blockOpens", fn := fun _ => fun
  | [d1, d2] => { results := [.lit (.bool false)], args := [d1, d2] }
  | _ => none }
def BlockOpensWrongFalsely : Prop := blockOpensRow.holds Tryz.pinned (OpenSpec.ofChange blockOpensWrong)

/-- 'pilcrowlaw20.BlockBack': WHATEVER THE INPUT: true; the input reads as it did. -/
def blockBackSpec : ChangeSpec := { name := "blockBack", fn := fun _ => fun
  | [d1, d2, d3] => { results := [.lit (.bool true)], args := [d1, d2, d3] }
  | _ => none }
def blockBackRow : OpenClaim := { program := "ythdcfmconpgflaagreat", sum := "84859f4b7acc35d64f0a552c1ea178ec934e9a8f31b4783d89ccb6022f13fde2", func := "pilcrow/pilcrowlaw20.BlockBack", spec := "blockBack", inPlace := ["internal/abi.NoEscape"], unfollowed := true, recurses := true, apart := false }
def BlockBackSaid : Prop := blockBackRow.holds Tryz.pinned (OpenSpec.ofChange blockBackSpec)

/-- ITS FALSE NEIGHBOUR: 'it returns false'. Refute it at one input. -/
def blockBackWrong : ChangeSpec := { name := "blockBack", fn := fun _ => fun
  | [d1, d2, d3] => { results := [.lit (.bool false)], args := [d1, d2, d3] }
  | _ => none }
def BlockBackWrongFalsely : Prop := blockBackRow.holds Tryz.pinned (OpenSpec.ofChange blockBackWrong)

/-- 'pilcrowlaw20.BlockBurst': WHATEVER THE INPUT: true; the input reads as it did. -/
def blockBurstSpec : ChangeSpec := { name := "blockBurst", fn := fun _ => fun
  | [d1, d2, d3] => { results := [.lit (.bool true)], args := [d1, d2, d3] }
  | _ => none }
def blockBurstRow : OpenClaim := { program := "ythdcfmconpgflaagreat", sum := "84859f4b7acc35d64f0a552c1ea178ec934e9a8f31b4783d89ccb6022f13fde2", func := "pilcrow/pilcrowlaw20.BlockBurst", spec := "blockBurst", inPlace := ["internal/abi.NoEscape"], unfollowed := true, recurses := true, apart := false }
def BlockBurstSaid : Prop := blockBurstRow.holds Tryz.pinned (OpenSpec.ofChange blockBurstSpec)

/-- ITS FALSE NEIGHBOUR: 'it returns false'. Refute it at one input. -/
def blockBurstWrong : ChangeSpec := { name := "blockBurst", fn := fun _ => fun
  | [d1, d2, d3] => { results := [.lit (.bool false)], args := [d1, d2, d3] }
  | _ => none }
def BlockBurstWrongFalsely : Prop := blockBurstRow.holds Tryz.pinned (OpenSpec.ofChange blockBurstWrong)

/-- 'pilcrowlaw20.BlockOne': WHATEVER THE INPUT: true; the input reads as it did. -/
def blockOneSpec : ChangeSpec := { name := "blockOne", fn := fun _ => fun
  | [d1, d2] => { results := [.lit (.bool true)], args := [d1, d2] }
  | _ => none }
def blockOneRow : OpenClaim := { program := "ythdcfmconpgflaagreat", sum := "84859f4b7acc35d64f0a552c1ea178ec934e9a8f31b4783d89ccb6022f13fde2", func := "pilcrow/pilcrowlaw20.BlockOne", spec := "blockOne", inPlace := ["internal/abi.NoEscape"], unfollowed := true, recurses := true, apart := false }
def BlockOneSaid : Prop := blockOneRow.holds Tryz.pinned (OpenSpec.ofChange blockOneSpec)

/-- ITS FALSE NEIGHBOUR: 'it returns false'. Refute it at one input. -/
def blockOneWrong : ChangeSpec := { name := "blockOne", fn := fun _ => fun
  | [d1, d2] => { results := [.lit (.bool false)], args := [d1, d2] }
  | _ => none }
def BlockOneWrongFalsely : Prop := blockOneRow.holds Tryz.pinned (OpenSpec.ofChange blockOneWrong)

/- THE SECOND FORM. 'bulk': how many values and letters a reading holds, each counted each time it is reached (what is shared counts as often as it is met; a slice's spare places count too). A statement '..UptoSaid' is the law's where the arguments, and the package variables that the reading takes, are together of bulk at most 1048576: NARROWER than '..Said'. Prove '..Said' where nothing that the law and all that it calls make is longer than what came in: it says more and counts as full. Else prove '..UptoSaid'. A law counts once. -/
mutual
def uptoBulk {H : Type} : DataW H → Nat
  | .lit (.string bytes) => bytes.length + 1
  | .lit _ => 1
  | .nil => 1
  | .ptr d => uptoBulk d + 1
  | .slice elems spare => uptoBulkAll elems + uptoBulkAll spare + 1
  | .agg parts => uptoBulkAll parts + 1
  | .iface _ d => uptoBulk d + 1
  | .map entries => uptoBulkEntries entries + 1
  | .held _ => 1
def uptoBulkAll {H : Type} : List (DataW H) → Nat
  | [] => 0
  | d :: r => uptoBulk d + uptoBulkAll r
def uptoBulkEntries {H : Type} : List (Lit × DataW H) → Nat
  | [] => 0
  | x :: r => uptoBulkEntry x + uptoBulkEntries r
def uptoBulkEntry {H : Type} : Lit × DataW H → Nat
  | (.string bytes, d) => bytes.length + uptoBulk d + 1
  | (_, d) => uptoBulk d + 1
 end
def uptoSmall : (H : Type) → List (DataW H) → Bool := fun _ ds => decide (uptoBulkAll ds ≤ 1048576)
def OpenSpec.upto (s : _root_.Go.ChangeSpec) : _root_.Go.OpenSpec := { _root_.Go.OpenSpec.ofChange s with cond := some uptoSmall }

/-- 'pilcrowlaw18.CodecMachines', WHERE WHAT IT READS IS OF BULK AT MOST 1048576: true; the input reads as it did. -/
def codecMachinesUptoRow : OpenClaim := { program := "ythdcfmconpgflaagreat", sum := "84859f4b7acc35d64f0a552c1ea178ec934e9a8f31b4783d89ccb6022f13fde2", func := "pilcrow/pilcrowlaw18.CodecMachines", spec := "codecMachines", inPlace := ["internal/abi.NoEscape"], unfollowed := true, recurses := true, apart := false, narrowed := true }
def CodecMachinesUptoSaid : Prop := codecMachinesUptoRow.holds Tryz.pinned (OpenSpec.upto codecMachinesSpec)

/-- 'pilcrowlaw18.CodecFirst', WHERE WHAT IT READS IS OF BULK AT MOST 1048576: true; the input reads as it did. -/
def codecFirstUptoRow : OpenClaim := { program := "ythdcfmconpgflaagreat", sum := "84859f4b7acc35d64f0a552c1ea178ec934e9a8f31b4783d89ccb6022f13fde2", func := "pilcrow/pilcrowlaw18.CodecFirst", spec := "codecFirst", inPlace := ["internal/abi.NoEscape"], unfollowed := true, recurses := true, apart := false, narrowed := true }
def CodecFirstUptoSaid : Prop := codecFirstUptoRow.holds Tryz.pinned (OpenSpec.upto codecFirstSpec)

/-- 'pilcrowlaw19.PumpReads', WHERE WHAT IT READS IS OF BULK AT MOST 1048576: true; the input reads as it did. -/
def pumpReadsUptoRow : OpenClaim := { program := "ythdcfmconpgflaagreat", sum := "84859f4b7acc35d64f0a552c1ea178ec934e9a8f31b4783d89ccb6022f13fde2", func := "pilcrow/pilcrowlaw19.PumpReads", spec := "pumpReads", inPlace := ["internal/abi.NoEscape"], unfollowed := true, recurses := true, apart := false, narrowed := true }
def PumpReadsUptoSaid : Prop := pumpReadsUptoRow.holds Tryz.pinned (OpenSpec.upto pumpReadsSpec)

/-- 'pilcrowlaw19.PumpWrites', WHERE WHAT IT READS IS OF BULK AT MOST 1048576: true; the input reads as it did. -/
def pumpWritesUptoRow : OpenClaim := { program := "ythdcfmconpgflaagreat", sum := "84859f4b7acc35d64f0a552c1ea178ec934e9a8f31b4783d89ccb6022f13fde2", func := "pilcrow/pilcrowlaw19.PumpWrites", spec := "pumpWrites", inPlace := ["internal/abi.NoEscape"], unfollowed := true, recurses := true, apart := false, narrowed := true }
def PumpWritesUptoSaid : Prop := pumpWritesUptoRow.holds Tryz.pinned (OpenSpec.upto pumpWritesSpec)

/-- 'pilcrowlaw19.PumpSteps', WHERE WHAT IT READS IS OF BULK AT MOST 1048576: true; the input reads as it did. -/
def pumpStepsUptoRow : OpenClaim := { program := "ythdcfmconpgflaagreat", sum := "84859f4b7acc35d64f0a552c1ea178ec934e9a8f31b4783d89ccb6022f13fde2", func := "pilcrow/pilcrowlaw19.PumpSteps", spec := "pumpSteps", inPlace := ["internal/abi.NoEscape"], unfollowed := true, recurses := true, apart := false, narrowed := true }
def PumpStepsUptoSaid : Prop := pumpStepsUptoRow.holds Tryz.pinned (OpenSpec.upto pumpStepsSpec)

/-- 'pilcrowlaw19.PumpBack', WHERE WHAT IT READS IS OF BULK AT MOST 1048576: true; the input reads as it did. -/
def pumpBackUptoRow : OpenClaim := { program := "ythdcfmconpgflaagreat", sum := "84859f4b7acc35d64f0a552c1ea178ec934e9a8f31b4783d89ccb6022f13fde2", func := "pilcrow/pilcrowlaw19.PumpBack", spec := "pumpBack", inPlace := ["internal/abi.NoEscape"], unfollowed := true, recurses := true, apart := false, narrowed := true }
def PumpBackUptoSaid : Prop := pumpBackUptoRow.holds Tryz.pinned (OpenSpec.upto pumpBackSpec)

/-- 'pilcrowlaw19.PumpAlike', WHERE WHAT IT READS IS OF BULK AT MOST 1048576: true; the input reads as it did. -/
def pumpAlikeUptoRow : OpenClaim := { program := "ythdcfmconpgflaagreat", sum := "84859f4b7acc35d64f0a552c1ea178ec934e9a8f31b4783d89ccb6022f13fde2", func := "pilcrow/pilcrowlaw19.PumpAlike", spec := "pumpAlike", inPlace := ["internal/abi.NoEscape"], unfollowed := true, recurses := true, apart := false, narrowed := true }
def PumpAlikeUptoSaid : Prop := pumpAlikeUptoRow.holds Tryz.pinned (OpenSpec.upto pumpAlikeSpec)

/-- 'pilcrowlaw25.TransTexts', WHERE WHAT IT READS IS OF BULK AT MOST 1048576: true; the input reads as it did. -/
def transTextsUptoRow : OpenClaim := { program := "ythdcfmconpgflaagreat", sum := "84859f4b7acc35d64f0a552c1ea178ec934e9a8f31b4783d89ccb6022f13fde2", func := "pilcrow/pilcrowlaw25.TransTexts", spec := "transTexts", inPlace := ["internal/abi.NoEscape"], unfollowed := true, recurses := true, apart := false, narrowed := true }
def TransTextsUptoSaid : Prop := transTextsUptoRow.holds Tryz.pinned (OpenSpec.upto transTextsSpec)

/-- 'pilcrowlaw25.TransHeld', WHERE WHAT IT READS IS OF BULK AT MOST 1048576: true; the input reads as it did. -/
def transHeldUptoRow : OpenClaim := { program := "ythdcfmconpgflaagreat", sum := "84859f4b7acc35d64f0a552c1ea178ec934e9a8f31b4783d89ccb6022f13fde2", func := "pilcrow/pilcrowlaw25.TransHeld", spec := "transHeld", inPlace := ["internal/abi.NoEscape"], unfollowed := true, recurses := true, apart := false, narrowed := true }
def TransHeldUptoSaid : Prop := transHeldUptoRow.holds Tryz.pinned (OpenSpec.upto transHeldSpec)

/-- 'pilcrowlaw25.TransRefuses', WHERE WHAT IT READS IS OF BULK AT MOST 1048576: true; the input reads as it did. -/
def transRefusesUptoRow : OpenClaim := { program := "ythdcfmconpgflaagreat", sum := "84859f4b7acc35d64f0a552c1ea178ec934e9a8f31b4783d89ccb6022f13fde2", func := "pilcrow/pilcrowlaw25.TransRefuses", spec := "transRefuses", inPlace := ["internal/abi.NoEscape"], unfollowed := true, recurses := true, apart := false, narrowed := true }
def TransRefusesUptoSaid : Prop := transRefusesUptoRow.holds Tryz.pinned (OpenSpec.upto transRefusesSpec)

/-- 'pilcrowlaw25.TransChains', WHERE WHAT IT READS IS OF BULK AT MOST 1048576: true; the input reads as it did. -/
def transChainsUptoRow : OpenClaim := { program := "ythdcfmconpgflaagreat", sum := "84859f4b7acc35d64f0a552c1ea178ec934e9a8f31b4783d89ccb6022f13fde2", func := "pilcrow/pilcrowlaw25.TransChains", spec := "transChains", inPlace := ["internal/abi.NoEscape"], unfollowed := true, recurses := true, apart := false, narrowed := true }
def TransChainsUptoSaid : Prop := transChainsUptoRow.holds Tryz.pinned (OpenSpec.upto transChainsSpec)

/-- 'pilcrowlaw25.TransBack', WHERE WHAT IT READS IS OF BULK AT MOST 1048576: true; the input reads as it did. -/
def transBackUptoRow : OpenClaim := { program := "ythdcfmconpgflaagreat", sum := "84859f4b7acc35d64f0a552c1ea178ec934e9a8f31b4783d89ccb6022f13fde2", func := "pilcrow/pilcrowlaw25.TransBack", spec := "transBack", inPlace := ["internal/abi.NoEscape"], unfollowed := true, recurses := true, apart := false, narrowed := true }
def TransBackUptoSaid : Prop := transBackUptoRow.holds Tryz.pinned (OpenSpec.upto transBackSpec)

/-- 'pilcrowlaw20.BlockMakes', WHERE WHAT IT READS IS OF BULK AT MOST 1048576: true; the input reads as it did. -/
def blockMakesUptoRow : OpenClaim := { program := "ythdcfmconpgflaagreat", sum := "84859f4b7acc35d64f0a552c1ea178ec934e9a8f31b4783d89ccb6022f13fde2", func := "pilcrow/pilcrowlaw20.BlockMakes", spec := "blockMakes", inPlace := ["internal/abi.NoEscape"], unfollowed := true, recurses := true, apart := false, narrowed := true }
def BlockMakesUptoSaid : Prop := blockMakesUptoRow.holds Tryz.pinned (OpenSpec.upto blockMakesSpec)

/-- 'pilcrowlaw20.BlockBytes', WHERE WHAT IT READS IS OF BULK AT MOST 1048576: true; the input reads as it did. -/
def blockBytesUptoRow : OpenClaim := { program := "ythdcfmconpgflaagreat", sum := "84859f4b7acc35d64f0a552c1ea178ec934e9a8f31b4783d89ccb6022f13fde2", func := "pilcrow/pilcrowlaw20.BlockBytes", spec := "blockBytes", inPlace := ["internal/abi.NoEscape"], unfollowed := true, recurses := true, apart := false, narrowed := true }
def BlockBytesUptoSaid : Prop := blockBytesUptoRow.holds Tryz.pinned (OpenSpec.upto blockBytesSpec)

/-- 'pilcrowlaw20.BlockReads', WHERE WHAT IT READS IS OF BULK AT MOST 1048576: true; the input reads as it did. -/
def blockReadsUptoRow : OpenClaim := { program := "ythdcfmconpgflaagreat", sum := "84859f4b7acc35d64f0a552c1ea178ec934e9a8f31b4783d89ccb6022f13fde2", func := "pilcrow/pilcrowlaw20.BlockReads", spec := "blockReads", inPlace := ["internal/abi.NoEscape"], unfollowed := true, recurses := true, apart := false, narrowed := true }
def BlockReadsUptoSaid : Prop := blockReadsUptoRow.holds Tryz.pinned (OpenSpec.upto blockReadsSpec)

/-- 'pilcrowlaw20.BlockOpens', WHERE WHAT IT READS IS OF BULK AT MOST 1048576: true; the input reads as it did. -/
def blockOpensUptoRow : OpenClaim := { program := "ythdcfmconpgflaagreat", sum := "84859f4b7acc35d64f0a552c1ea178ec934e9a8f31b4783d89ccb6022f13fde2", func := "pilcrow/pilcrowlaw20.BlockOpens", spec := "blockOpens", inPlace := ["internal/abi.NoEscape"], unfollowed := true, recurses := true, apart := false, narrowed := true }
def BlockOpensUptoSaid : Prop := blockOpensUptoRow.holds Tryz.pinned (OpenSpec.upto blockOpensSpec)

/-- 'pilcrowlaw20.BlockBack', WHERE WHAT IT READS IS OF BULK AT MOST 1048576: true; the input reads as it did. -/
def blockBackUptoRow : OpenClaim := { program := "ythdcfmconpgflaagreat", sum := "84859f4b7acc35d64f0a552c1ea178ec934e9a8f31b4783d89ccb6022f13fde2", func := "pilcrow/pilcrowlaw20.BlockBack", spec := "blockBack", inPlace := ["internal/abi.NoEscape"], unfollowed := true, recurses := true, apart := false, narrowed := true }
def BlockBackUptoSaid : Prop := blockBackUptoRow.holds Tryz.pinned (OpenSpec.upto blockBackSpec)

/-- 'pilcrowlaw20.BlockBurst', WHERE WHAT IT READS IS OF BULK AT MOST 1048576: true; the input reads as it did. -/
def blockBurstUptoRow : OpenClaim := { program := "ythdcfmconpgflaagreat", sum := "84859f4b7acc35d64f0a552c1ea178ec934e9a8f31b4783d89ccb6022f13fde2", func := "pilcrow/pilcrowlaw20.BlockBurst", spec := "blockBurst", inPlace := ["internal/abi.NoEscape"], unfollowed := true, recurses := true, apart := false, narrowed := true }
def BlockBurstUptoSaid : Prop := blockBurstUptoRow.holds Tryz.pinned (OpenSpec.upto blockBurstSpec)

/-- 'pilcrowlaw20.BlockOne', WHERE WHAT IT READS IS OF BULK AT MOST 1048576: true; the input reads as it did. -/
def blockOneUptoRow : OpenClaim := { program := "ythdcfmconpgflaagreat", sum := "84859f4b7acc35d64f0a552c1ea178ec934e9a8f31b4783d89ccb6022f13fde2", func := "pilcrow/pilcrowlaw20.BlockOne", spec := "blockOne", inPlace := ["internal/abi.NoEscape"], unfollowed := true, recurses := true, apart := false, narrowed := true }
def BlockOneUptoSaid : Prop := blockOneUptoRow.holds Tryz.pinned (OpenSpec.upto blockOneSpec)

end Rows
end Go.Proofs.YthdcfmconpgflaaGreat

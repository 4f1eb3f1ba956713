/-
  No cell of these rows narrows 'for every input' (looked for: loops, veiled, ifaces, maps, wideKeys, modest, calm, conditions, laid).
  DERIVED. THE GIVEN ROWS OF THIS SEAT. 15 by the template 'for every input the law returns true; each argument reads behind the call as it read before'; 0 by the template 'total and deterministic' (their statements: YtpdabmbjnmpgbaaTotals.lean).
  GIVEN WITH THE SEED: the statements are not yours to turn. If you find one false, say at which input.
  Laid BY PROGRAM, IN A SANDBOX (cutbox-rows.mjs): the forced cells as the released guide's own fill.sh prints them over the translation 9cd7c053ce530ead… (all of the seat's roots in one cut). By AI agents, Wed Nov 11 2026. No macro, syntax, notation, axiom, sorry.
-/
import Derived.Test.YtpdabmbjnmpgbaaChecked
import GoSem.Claim
import GoSem.ClaimJoined
import GoSem.ClaimMapViews
import Derived.JoinedTies
import Derived.KernelRfl
namespace Go.Proofs.Ytpdabmbjnmpgbaa
/- THE CELL 'sum', in the pinned program and in every row, IS THE sha256 OF THE DUMP (.gsa) THAT YtpdabmbjnmpgbaaProg.lean LOADS. Nothing in Lean hashes anything: it is a label: what it is worth is what the hold of that sum in a sandbox is worth. -/
noncomputable def Try.pinned : Pinned := { name := "ytpdabmbjnmpgbaa", sum := "9cd7c053ce530ead8dd4138ef34820e6dd95e3aae9a8d6344233d7fc6edd6cd2", checked := Try.checked }
namespace Rows
def none {H : Type} : Left H := { results := [], args := [] }

/-- 'prolepsislaw16.RttBetween': WHATEVER THE INPUT: true; the input reads as it did. -/
def rttBetweenSpec : ChangeSpec := { name := "rttBetween", fn := fun _ => fun
  | [d1, d2] => { results := [.lit (.bool true)], args := [d1, d2] }
  | _ => none }
def rttBetweenRow : OpenClaim := { program := "ytpdabmbjnmpgbaa", sum := "9cd7c053ce530ead8dd4138ef34820e6dd95e3aae9a8d6344233d7fc6edd6cd2", func := "prolepsis/prolepsislaw16.RttBetween", spec := "rttBetween", unfollowed := true, recurses := true, apart := false }
def RttBetweenSaid : Prop := rttBetweenRow.holds Try.pinned (OpenSpec.ofChange rttBetweenSpec)

/-- ITS FALSE NEIGHBOUR: 'it returns false'. Refute it at one input. -/
def rttBetweenWrong : ChangeSpec := { name := "rttBetween", fn := fun _ => fun
  | [d1, d2] => { results := [.lit (.bool false)], args := [d1, d2] }
  | _ => none }
def RttBetweenWrongFalsely : Prop := rttBetweenRow.holds Try.pinned (OpenSpec.ofChange rttBetweenWrong)

/-- 'prolepsislaw15.QueueOrder': WHATEVER THE INPUT: true; the input reads as it did. -/
def queueOrderSpec : ChangeSpec := { name := "queueOrder", fn := fun _ => fun
  | [d1, d2, d3] => { results := [.lit (.bool true)], args := [d1, d2, d3] }
  | _ => none }
def queueOrderRow : OpenClaim := { program := "ytpdabmbjnmpgbaa", sum := "9cd7c053ce530ead8dd4138ef34820e6dd95e3aae9a8d6344233d7fc6edd6cd2", func := "prolepsis/prolepsislaw15.QueueOrder", spec := "queueOrder", apart := false }
def QueueOrderSaid : Prop := queueOrderRow.holds Try.pinned (OpenSpec.ofChange queueOrderSpec)

/-- ITS FALSE NEIGHBOUR: 'it returns false'. Refute it at one input. -/
def queueOrderWrong : ChangeSpec := { name := "queueOrder", fn := fun _ => fun
  | [d1, d2, d3] => { results := [.lit (.bool false)], args := [d1, d2, d3] }
  | _ => none }
def QueueOrderWrongFalsely : Prop := queueOrderRow.holds Try.pinned (OpenSpec.ofChange queueOrderWrong)

/-- 'prolepsislaw16.RttSamples': WHATEVER THE INPUT: true; the input reads as it did. -/
def rttSamplesSpec : ChangeSpec := { name := "rttSamples", fn := fun _ => fun
  | [d] => { results := [.lit (.bool true)], args := [d] }
  | _ => none }
def rttSamplesRow : OpenClaim := { program := "ytpdabmbjnmpgbaa", sum := "9cd7c053ce530ead8dd4138ef34820e6dd95e3aae9a8d6344233d7fc6edd6cd2", func := "prolepsis/prolepsislaw16.RttSamples", spec := "rttSamples", unfollowed := true, recurses := true, apart := false }
def RttSamplesSaid : Prop := rttSamplesRow.holds Try.pinned (OpenSpec.ofChange rttSamplesSpec)

/-- ITS FALSE NEIGHBOUR: 'it returns false'. Refute it at one input. -/
def rttSamplesWrong : ChangeSpec := { name := "rttSamples", fn := fun _ => fun
  | [d] => { results := [.lit (.bool false)], args := [d] }
  | _ => none }
def RttSamplesWrongFalsely : Prop := rttSamplesRow.holds Try.pinned (OpenSpec.ofChange rttSamplesWrong)

/-- 'prolepsislaw16.RttNil': WHATEVER THE INPUT: true; the input reads as it did. -/
def rttNilSpec : ChangeSpec := { name := "rttNil", fn := fun _ => fun
  | [d] => { results := [.lit (.bool true)], args := [d] }
  | _ => none }
def rttNilRow : OpenClaim := { program := "ytpdabmbjnmpgbaa", sum := "9cd7c053ce530ead8dd4138ef34820e6dd95e3aae9a8d6344233d7fc6edd6cd2", func := "prolepsis/prolepsislaw16.RttNil", spec := "rttNil", unfollowed := true, recurses := true, apart := false }
def RttNilSaid : Prop := rttNilRow.holds Try.pinned (OpenSpec.ofChange rttNilSpec)

/-- ITS FALSE NEIGHBOUR: 'it returns false'. Refute it at one input. -/
def rttNilWrong : ChangeSpec := { name := "rttNil", fn := fun _ => fun
  | [d] => { results := [.lit (.bool false)], args := [d] }
  | _ => none }
def RttNilWrongFalsely : Prop := rttNilRow.holds Try.pinned (OpenSpec.ofChange rttNilWrong)

/-- 'prolepsislaw26.PolicyHolds': WHATEVER THE INPUT: true; the input reads as it did. -/
def policyHoldsSpec : ChangeSpec := { name := "policyHolds", fn := fun _ => fun
  | [d1, d2] => { results := [.lit (.bool true)], args := [d1, d2] }
  | _ => none }
def policyHoldsRow : OpenClaim := { program := "ytpdabmbjnmpgbaa", sum := "9cd7c053ce530ead8dd4138ef34820e6dd95e3aae9a8d6344233d7fc6edd6cd2", func := "prolepsis/prolepsislaw26.PolicyHolds", spec := "policyHolds", apart := false }
def PolicyHoldsSaid : Prop := policyHoldsRow.holds Try.pinned (OpenSpec.ofChange policyHoldsSpec)

/-- ITS FALSE NEIGHBOUR: 'it returns false'. Refute it at one input. -/
def policyHoldsWrong : ChangeSpec := { name := "policyHolds", fn := fun _ => fun
  | [d1, d2] => { results := [.lit (.bool false)], args := [d1, d2] }
  | _ => none }
def PolicyHoldsWrongFalsely : Prop := policyHoldsRow.holds Try.pinned (OpenSpec.ofChange policyHoldsWrong)

/-- 'prolepsislaw15.QueuePours': WHATEVER THE INPUT: true; the input reads as it did. -/
def queuePoursSpec : ChangeSpec := { name := "queuePours", fn := fun _ => fun
  | [d1, d2, d3] => { results := [.lit (.bool true)], args := [d1, d2, d3] }
  | _ => none }
def queuePoursRow : OpenClaim := { program := "ytpdabmbjnmpgbaa", sum := "9cd7c053ce530ead8dd4138ef34820e6dd95e3aae9a8d6344233d7fc6edd6cd2", func := "prolepsis/prolepsislaw15.QueuePours", spec := "queuePours", apart := false }
def QueuePoursSaid : Prop := queuePoursRow.holds Try.pinned (OpenSpec.ofChange queuePoursSpec)

/-- ITS FALSE NEIGHBOUR: 'it returns false'. Refute it at one input. -/
def queuePoursWrong : ChangeSpec := { name := "queuePours", fn := fun _ => fun
  | [d1, d2, d3] => { results := [.lit (.bool false)], args := [d1, d2, d3] }
  | _ => none }
def QueuePoursWrongFalsely : Prop := queuePoursRow.holds Try.pinned (OpenSpec.ofChange queuePoursWrong)

/-- 'prolepsislaw26.PolicyPlays': WHATEVER THE INPUT: true; the input reads as it did. -/
def policyPlaysSpec : ChangeSpec := { name := "policyPlays", fn := fun _ => fun
  | [d1, d2] => { results := [.lit (.bool true)], args := [d1, d2] }
  | _ => none }
def policyPlaysRow : OpenClaim := { program := "ytpdabmbjnmpgbaa", sum := "9cd7c053ce530ead8dd4138ef34820e6dd95e3aae9a8d6344233d7fc6edd6cd2", func := "prolepsis/prolepsislaw26.PolicyPlays", spec := "policyPlays", apart := false }
def PolicyPlaysSaid : Prop := policyPlaysRow.holds Try.pinned (OpenSpec.ofChange policyPlaysSpec)

/-- ITS FALSE NEIGHBOUR: 'it returns false'. Refute it at one input. -/
def policyPlaysWrong : ChangeSpec := { name := "policyPlays", fn := fun _ => fun
  | [d1, d2] => { results := [.lit (.bool false)], args := [d1, d2] }
  | _ => none }
def PolicyPlaysWrongFalsely : Prop := policyPlaysRow.holds Try.pinned (OpenSpec.ofChange policyPlaysWrong)

/-- 'prolepsislaw26.PolicyNil': WHATEVER THE INPUT: true; the input reads as it did. -/
def policyNilSpec : ChangeSpec := { name := "policyNil", fn := fun _ => fun
  | [d] => { results := [.lit (.bool true)], args := [d] }
  | _ => none }
def policyNilRow : OpenClaim := { program := "ytpdabmbjnmpgbaa", sum := "9cd7c053ce530ead8dd4138ef34820e6dd95e3aae9a8d6344233d7fc6edd6cd2", func := "prolepsis/prolepsislaw26.PolicyNil", spec := "policyNil", apart := false }
def PolicyNilSaid : Prop := policyNilRow.holds Try.pinned (OpenSpec.ofChange policyNilSpec)

/-- ITS FALSE NEIGHBOUR: 'it returns false'. Refute it at one input. -/
def policyNilWrong : ChangeSpec := { name := "policyNil", fn := fun _ => fun
  | [d] => { results := [.lit (.bool false)], args := [d] }
  | _ => none }
def PolicyNilWrongFalsely : Prop := policyNilRow.holds Try.pinned (OpenSpec.ofChange policyNilWrong)

/-- 'prolepsislaw15.QueuePlays': WHATEVER THE INPUT: true; the input reads as it did. -/
def queuePlaysSpec : ChangeSpec := { name := "queuePlays", fn := fun _ => fun
  | [d1, d2, d3] => { results := [.lit (.bool true)], args := [d1, d2, d3] }
  | _ => none }
def queuePlaysRow : OpenClaim := { program := "ytpdabmbjnmpgbaa", sum := "9cd7c053ce530ead8dd4138ef34820e6dd95e3aae9a8d6344233d7fc6edd6cd2", func := "prolepsis/prolepsislaw15.QueuePlays", spec := "queuePlays", apart := false }
def QueuePlaysSaid : Prop := queuePlaysRow.holds Try.pinned (OpenSpec.ofChange queuePlaysSpec)

/-- ITS FALSE NEIGHBOUR: 'it returns false'. Refute it at one input. -/
def queuePlaysWrong : ChangeSpec := { name := "queuePlays", fn := fun _ => fun
  | [d1, d2, d3] => { results := [.lit (.bool false)], args := [d1, d2, d3] }
  | _ => none }
def QueuePlaysWrongFalsely : Prop := queuePlaysRow.holds Try.pinned (OpenSpec.ofChange queuePlaysWrong)

/-- 'prolepsislaw15.QueueNil': WHATEVER THE INPUT: true; the input reads as it did. -/
def queueNilSpec : ChangeSpec := { name := "queueNil", fn := fun _ => fun
  | [d] => { results := [.lit (.bool true)], args := [d] }
  | _ => none }
def queueNilRow : OpenClaim := { program := "ytpdabmbjnmpgbaa", sum := "9cd7c053ce530ead8dd4138ef34820e6dd95e3aae9a8d6344233d7fc6edd6cd2", func := "prolepsis/prolepsislaw15.QueueNil", spec := "queueNil", apart := false }
def QueueNilSaid : Prop := queueNilRow.holds Try.pinned (OpenSpec.ofChange queueNilSpec)

/-- ITS FALSE NEIGHBOUR: 'it returns false'. Refute it at one input. -/
def queueNilWrong : ChangeSpec := { name := "queueNil", fn := fun _ => fun
  | [d] => { results := [.lit (.bool false)], args := [d] }
  | _ => none }
def QueueNilWrongFalsely : Prop := queueNilRow.holds Try.pinned (OpenSpec.ofChange queueNilWrong)

/-- 'prolepsislaw19.SendFull': WHATEVER THE INPUT: true; the input reads as it did. -/
def sendFullSpec : ChangeSpec := { name := "sendFull", fn := fun _ => fun
  | [d1, d2] => { results := [.lit (.bool true)], args := [d1, d2] }
  | _ => none }
def sendFullRow : OpenClaim := { program := "ytpdabmbjnmpgbaa", sum := "9cd7c053ce530ead8dd4138ef34820e6dd95e3aae9a8d6344233d7fc6edd6cd2", func := "prolepsis/prolepsislaw19.SendFull", spec := "sendFull", unfollowed := true, recurses := true, apart := false }
def SendFullSaid : Prop := sendFullRow.holds Try.pinned (OpenSpec.ofChange sendFullSpec)

/-- ITS FALSE NEIGHBOUR: 'it returns false'. Refute it at one input. -/
def sendFullWrong : ChangeSpec := { name := "sendFull", fn := fun _ => fun
  | [d1, d2] => { results := [.lit (.bool false)], args := [d1, d2] }
  | _ => none }
def SendFullWrongFalsely : Prop := sendFullRow.holds Try.pinned (OpenSpec.ofChange sendFullWrong)

/-- 'prolepsislaw19.SendAgain': WHATEVER THE INPUT: true; the input reads as it did. -/
def sendAgainSpec : ChangeSpec := { name := "sendAgain", fn := fun _ => fun
  | [d1, d2, d3] => { results := [.lit (.bool true)], args := [d1, d2, d3] }
  | _ => none }
def sendAgainRow : OpenClaim := { program := "ytpdabmbjnmpgbaa", sum := "9cd7c053ce530ead8dd4138ef34820e6dd95e3aae9a8d6344233d7fc6edd6cd2", func := "prolepsis/prolepsislaw19.SendAgain", spec := "sendAgain", unfollowed := true, recurses := true, apart := false }
def SendAgainSaid : Prop := sendAgainRow.holds Try.pinned (OpenSpec.ofChange sendAgainSpec)

/-- ITS FALSE NEIGHBOUR: 'it returns false'. Refute it at one input. -/
def sendAgainWrong : ChangeSpec := { name := "sendAgain", fn := fun _ => fun
  | [d1, d2, d3] => { results := [.lit (.bool false)], args := [d1, d2, d3] }
  | _ => none }
def SendAgainWrongFalsely : Prop := sendAgainRow.holds Try.pinned (OpenSpec.ofChange sendAgainWrong)

/-- 'prolepsislaw19.SendBounds': WHATEVER THE INPUT: true; the input reads as it did. -/
def sendBoundsSpec : ChangeSpec := { name := "sendBounds", fn := fun _ => fun
  | [d] => { results := [.lit (.bool true)], args := [d] }
  | _ => none }
def sendBoundsRow : OpenClaim := { program := "ytpdabmbjnmpgbaa", sum := "9cd7c053ce530ead8dd4138ef34820e6dd95e3aae9a8d6344233d7fc6edd6cd2", func := "prolepsis/prolepsislaw19.SendBounds", spec := "sendBounds", unfollowed := true, recurses := true, apart := false }
def SendBoundsSaid : Prop := sendBoundsRow.holds Try.pinned (OpenSpec.ofChange sendBoundsSpec)

/-- ITS FALSE NEIGHBOUR: 'it returns false'. Refute it at one input. -/
def sendBoundsWrong : ChangeSpec := { name := "sendBounds", fn := fun _ => fun
  | [d] => { results := [.lit (.bool false)], args := [d] }
  | _ => none }
def SendBoundsWrongFalsely : Prop := sendBoundsRow.holds Try.pinned (OpenSpec.ofChange sendBoundsWrong)

/-- 'prolepsislaw19.SendPlays': WHATEVER THE INPUT: true; the input reads as it did. -/
def sendPlaysSpec : ChangeSpec := { name := "sendPlays", fn := fun _ => fun
  | [d] => { results := [.lit (.bool true)], args := [d] }
  | _ => none }
def sendPlaysRow : OpenClaim := { program := "ytpdabmbjnmpgbaa", sum := "9cd7c053ce530ead8dd4138ef34820e6dd95e3aae9a8d6344233d7fc6edd6cd2", func := "prolepsis/prolepsislaw19.SendPlays", spec := "sendPlays", unfollowed := true, recurses := true, apart := false }
def SendPlaysSaid : Prop := sendPlaysRow.holds Try.pinned (OpenSpec.ofChange sendPlaysSpec)

/-- ITS FALSE NEIGHBOUR: 'it returns false'. Refute it at one input. -/
def sendPlaysWrong : ChangeSpec := { name := "sendPlays", fn := fun _ => fun
  | [d] => { results := [.lit (.bool false)], args := [d] }
  | _ => none }
def SendPlaysWrongFalsely : Prop := sendPlaysRow.holds Try.pinned (OpenSpec.ofChange sendPlaysWrong)

/-- 'prolepsislaw19.SendNil': WHATEVER THE INPUT: true; the input reads as it did. -/
def sendNilSpec : ChangeSpec := { name := "sendNil", fn := fun _ => fun
  | [d] => { results := [.lit (.bool true)], args := [d] }
  | _ => none }
def sendNilRow : OpenClaim := { program := "ytpdabmbjnmpgbaa", sum := "9cd7c053ce530ead8dd4138ef34820e6dd95e3aae9a8d6344233d7fc6edd6cd2", func := "prolepsis/prolepsislaw19.SendNil", spec := "sendNil", unfollowed := true, recurses := true, apart := false }
def SendNilSaid : Prop := sendNilRow.holds Try.pinned (OpenSpec.ofChange sendNilSpec)

/-- ITS FALSE NEIGHBOUR: 'it returns false'. Refute it at one input. -/
def sendNilWrong : ChangeSpec := { name := "sendNil", fn := fun _ => fun
  | [d] => { results := [.lit (.bool false)], args := [d] }
  | _ => none }
def SendNilWrongFalsely : Prop := sendNilRow.holds Try.pinned (OpenSpec.ofChange sendNilWrong)

/- THE SECOND FORM. 'bulk': how many values and letters a reading holds, each counted each time it is reached (what is shared counts as often as it is met; a slice's spare places count too). A statement '..UptoSaid' is the law's where the arguments, and the package variables that the reading takes, are together of bulk at most 1048576: NARROWER than '..Said'. Prove '..Said' where nothing that the law and all that it calls make is longer than what came in: it says more and counts as full. Else prove '..UptoSaid'. A law counts once. -/
mutual
def uptoBulk {H : Type} : DataW H → Nat
  | .lit (.string bytes) => bytes.length + 1
  | .lit _ => 1
  | .nil => 1
  | .ptr d => uptoBulk d + 1
  | .slice elems spare => uptoBulkAll elems + uptoBulkAll spare + 1
  | .agg parts => uptoBulkAll parts + 1
  | .iface _ d => uptoBulk d + 1
  | .map entries => uptoBulkEntries entries + 1
  | .held _ => 1
def uptoBulkAll {H : Type} : List (DataW H) → Nat
  | [] => 0
  | d :: r => uptoBulk d + uptoBulkAll r
def uptoBulkEntries {H : Type} : List (Lit × DataW H) → Nat
  | [] => 0
  | x :: r => uptoBulkEntry x + uptoBulkEntries r
def uptoBulkEntry {H : Type} : Lit × DataW H → Nat
  | (.string bytes, d) => bytes.length + uptoBulk d + 1
  | (_, d) => uptoBulk d + 1
 end
def uptoSmall : (H : Type) → List (DataW H) → Bool := fun _ ds => decide (uptoBulkAll ds ≤ 1048576)
def OpenSpec.upto (s : _root_.Go.ChangeSpec) : _root_.Go.OpenSpec := { _root_.Go.OpenSpec.ofChange s with cond := some uptoSmall }

/-- 'prolepsislaw16.RttBetween', WHERE WHAT IT READS IS OF BULK AT MOST 1048576: true; the input reads as it did. -/
def rttBetweenUptoRow : OpenClaim := { program := "ytpdabmbjnmpgbaa", sum := "9cd7c053ce530ead8dd4138ef34820e6dd95e3aae9a8d6344233d7fc6edd6cd2", func := "prolepsis/prolepsislaw16.RttBetween", spec := "rttBetween", unfollowed := true, recurses := true, apart := false, narrowed := true }
def RttBetweenUptoSaid : Prop := rttBetweenUptoRow.holds Try.pinned (OpenSpec.upto rttBetweenSpec)

/-- 'prolepsislaw15.QueueOrder', WHERE WHAT IT READS IS OF BULK AT MOST 1048576: true; the input reads as it did. -/
def queueOrderUptoRow : OpenClaim := { program := "ytpdabmbjnmpgbaa", sum := "9cd7c053ce530ead8dd4138ef34820e6dd95e3aae9a8d6344233d7fc6edd6cd2", func := "prolepsis/prolepsislaw15.QueueOrder", spec := "queueOrder", apart := false, narrowed := true }
def QueueOrderUptoSaid : Prop := queueOrderUptoRow.holds Try.pinned (OpenSpec.upto queueOrderSpec)

/-- 'prolepsislaw16.RttSamples', WHERE WHAT IT READS IS OF BULK AT MOST 1048576: true; the input reads as it did. -/
def rttSamplesUptoRow : OpenClaim := { program := "ytpdabmbjnmpgbaa", sum := "9cd7c053ce530ead8dd4138ef34820e6dd95e3aae9a8d6344233d7fc6edd6cd2", func := "prolepsis/prolepsislaw16.RttSamples", spec := "rttSamples", unfollowed := true, recurses := true, apart := false, narrowed := true }
def RttSamplesUptoSaid : Prop := rttSamplesUptoRow.holds Try.pinned (OpenSpec.upto rttSamplesSpec)

/-- 'prolepsislaw16.RttNil', WHERE WHAT IT READS IS OF BULK AT MOST 1048576: true; the input reads as it did. -/
def rttNilUptoRow : OpenClaim := { program := "ytpdabmbjnmpgbaa", sum := "9cd7c053ce530ead8dd4138ef34820e6dd95e3aae9a8d6344233d7fc6edd6cd2", func := "prolepsis/prolepsislaw16.RttNil", spec := "rttNil", unfollowed := true, recurses := true, apart := false, narrowed := true }
def RttNilUptoSaid : Prop := rttNilUptoRow.holds Try.pinned (OpenSpec.upto rttNilSpec)

/-- 'prolepsislaw26.PolicyHolds', WHERE WHAT IT READS IS OF BULK AT MOST 1048576: true; the input reads as it did. -/
def policyHoldsUptoRow : OpenClaim := { program := "ytpdabmbjnmpgbaa", sum := "9cd7c053ce530ead8dd4138ef34820e6dd95e3aae9a8d6344233d7fc6edd6cd2", func := "prolepsis/prolepsislaw26.PolicyHolds", spec := "policyHolds", apart := false, narrowed := true }
def PolicyHoldsUptoSaid : Prop := policyHoldsUptoRow.holds Try.pinned (OpenSpec.upto policyHoldsSpec)

/-- 'prolepsislaw15.QueuePours', WHERE WHAT IT READS IS OF BULK AT MOST 1048576: true; the input reads as it did. -/
def queuePoursUptoRow : OpenClaim := { program := "ytpdabmbjnmpgbaa", sum := "9cd7c053ce530ead8dd4138ef34820e6dd95e3aae9a8d6344233d7fc6edd6cd2", func := "prolepsis/prolepsislaw15.QueuePours", spec := "queuePours", apart := false, narrowed := true }
def QueuePoursUptoSaid : Prop := queuePoursUptoRow.holds Try.pinned (OpenSpec.upto queuePoursSpec)

/-- 'prolepsislaw26.PolicyPlays', WHERE WHAT IT READS IS OF BULK AT MOST 1048576: true; the input reads as it did. -/
def policyPlaysUptoRow : OpenClaim := { program := "ytpdabmbjnmpgbaa", sum := "9cd7c053ce530ead8dd4138ef34820e6dd95e3aae9a8d6344233d7fc6edd6cd2", func := "prolepsis/prolepsislaw26.PolicyPlays", spec := "policyPlays", apart := false, narrowed := true }
def PolicyPlaysUptoSaid : Prop := policyPlaysUptoRow.holds Try.pinned (OpenSpec.upto policyPlaysSpec)

/-- 'prolepsislaw26.PolicyNil', WHERE WHAT IT READS IS OF BULK AT MOST 1048576: true; the input reads as it did. -/
def policyNilUptoRow : OpenClaim := { program := "ytpdabmbjnmpgbaa", sum := "9cd7c053ce530ead8dd4138ef34820e6dd95e3aae9a8d6344233d7fc6edd6cd2", func := "prolepsis/prolepsislaw26.PolicyNil", spec := "policyNil", apart := false, narrowed := true }
def PolicyNilUptoSaid : Prop := policyNilUptoRow.holds Try.pinned (OpenSpec.upto policyNilSpec)

/-- 'prolepsislaw15.QueuePlays', WHERE WHAT IT READS IS OF BULK AT MOST 1048576: true; the input reads as it did. -/
def queuePlaysUptoRow : OpenClaim := { program := "ytpdabmbjnmpgbaa", sum := "9cd7c053ce530ead8dd4138ef34820e6dd95e3aae9a8d6344233d7fc6edd6cd2", func := "prolepsis/prolepsislaw15.QueuePlays", spec := "queuePlays", apart := false, narrowed := true }
def QueuePlaysUptoSaid : Prop := queuePlaysUptoRow.holds Try.pinned (OpenSpec.upto queuePlaysSpec)

/-- 'prolepsislaw15.QueueNil', WHERE WHAT IT READS IS OF BULK AT MOST 1048576: true; the input reads as it did. -/
def queueNilUptoRow : OpenClaim := { program := "ytpdabmbjnmpgbaa", sum := "9cd7c053ce530ead8dd4138ef34820e6dd95e3aae9a8d6344233d7fc6edd6cd2", func := "prolepsis/prolepsislaw15.QueueNil", spec := "queueNil", apart := false, narrowed := true }
def QueueNilUptoSaid : Prop := queueNilUptoRow.holds Try.pinned (OpenSpec.upto queueNilSpec)

/-- 'prolepsislaw19.SendFull', WHERE WHAT IT READS IS OF BULK AT MOST 1048576: true; the input reads as it did. -/
def sendFullUptoRow : OpenClaim := { program := "ytpdabmbjnmpgbaa", sum := "9cd7c053ce530ead8dd4138ef34820e6dd95e3aae9a8d6344233d7fc6edd6cd2", func := "prolepsis/prolepsislaw19.SendFull", spec := "sendFull", unfollowed := true, recurses := true, apart := false, narrowed := true }
def SendFullUptoSaid : Prop := sendFullUptoRow.holds Try.pinned (OpenSpec.upto sendFullSpec)

/-- 'prolepsislaw19.SendAgain', WHERE WHAT IT READS IS OF BULK AT MOST 1048576: true; the input reads as it did. -/
def sendAgainUptoRow : OpenClaim := { program := "ytpdabmbjnmpgbaa", sum := "9cd7c053ce530ead8dd4138ef34820e6dd95e3aae9a8d6344233d7fc6edd6cd2", func := "prolepsis/prolepsislaw19.SendAgain", spec := "sendAgain", unfollowed := true, recurses := true, apart := false, narrowed := true }
def SendAgainUptoSaid : Prop := sendAgainUptoRow.holds Try.pinned (OpenSpec.upto sendAgainSpec)

/-- 'prolepsislaw19.SendBounds', WHERE WHAT IT READS IS OF BULK AT MOST 1048576: true; the input reads as it did. -/
def sendBoundsUptoRow : OpenClaim := { program := "ytpdabmbjnmpgbaa", sum := "9cd7c053ce530ead8dd4138ef34820e6dd95e3aae9a8d6344233d7fc6edd6cd2", func := "prolepsis/prolepsislaw19.SendBounds", spec := "sendBounds", unfollowed := true, recurses := true, apart := false, narrowed := true }
def SendBoundsUptoSaid : Prop := sendBoundsUptoRow.holds Try.pinned (OpenSpec.upto sendBoundsSpec)

/-- 'prolepsislaw19.SendPlays', WHERE WHAT IT READS IS OF BULK AT MOST 1048576: true; the input reads as it did. -/
def sendPlaysUptoRow : OpenClaim := { program := "ytpdabmbjnmpgbaa", sum := "9cd7c053ce530ead8dd4138ef34820e6dd95e3aae9a8d6344233d7fc6edd6cd2", func := "prolepsis/prolepsislaw19.SendPlays", spec := "sendPlays", unfollowed := true, recurses := true, apart := false, narrowed := true }
def SendPlaysUptoSaid : Prop := sendPlaysUptoRow.holds Try.pinned (OpenSpec.upto sendPlaysSpec)

/-- 'prolepsislaw19.SendNil', WHERE WHAT IT READS IS OF BULK AT MOST 1048576: true; the input reads as it did. -/
def sendNilUptoRow : OpenClaim := { program := "ytpdabmbjnmpgbaa", sum := "9cd7c053ce530ead8dd4138ef34820e6dd95e3aae9a8d6344233d7fc6edd6cd2", func := "prolepsis/prolepsislaw19.SendNil", spec := "sendNil", unfollowed := true, recurses := true, apart := false, narrowed := true }
def SendNilUptoSaid : Prop := sendNilUptoRow.holds Try.pinned (OpenSpec.upto sendNilSpec)

end Rows
end Go.Proofs.Ytpdabmbjnmpgbaa

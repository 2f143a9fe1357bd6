/-
  No cell of these rows narrows 'for every input' (looked for: loops, veiled, ifaces, maps, wideKeys, modest, calm, conditions, laid).
  DERIVED. THE GIVEN ROWS OF THIS SEAT. 10 by the template 'for every input the law returns true; each argument reads behind the call as it read before'; 0 by the template 'total and deterministic' (their statements: YtdinbhanekpjoaaTotals.lean).
  GIVEN WITH THE SEED: the statements are not yours to turn. If you find one false, say at which input.
  Laid BY PROGRAM, IN A SANDBOX (cutbox-rows.mjs): the forced cells as the released guide's own fill.sh prints them over the translation e59706a9ca4fcc97… (all of the seat's roots in one cut). By AI agents, Wed Nov 11 2026. No macro, syntax, notation, axiom, sorry.
-/
import Derived.Test.YtdinbhanekpjoaaChecked
import GoSem.Claim
import GoSem.ClaimJoined
import GoSem.ClaimMapViews
import Derived.JoinedTies
import Derived.KernelRfl
namespace Go.Proofs.Ytdinbhanekpjoaa
/- THE CELL 'sum', in the pinned program and in every row, IS THE sha256 OF THE DUMP (.gsa) THAT YtdinbhanekpjoaaProg.lean LOADS. Nothing in Lean hashes anything: it is a label: what it is worth is what the hold of that sum in a sandbox is worth. -/
noncomputable def Try.pinned : Pinned := { name := "ytdinbhanekpjoaa", sum := "e59706a9ca4fcc978e27bec1dd3dbc74b015c7779660178c3c7132ed7bb5138a", checked := Try.checked }
namespace Rows
def none {H : Type} : Left H := { results := [], args := [] }

/-- 'revetmentlaw07.DeviceLimit': WHATEVER THE INPUT: true; the input reads as it did. -/
def deviceLimitSpec : ChangeSpec := { name := "deviceLimit", fn := fun _ => fun
  | [d1, d2, d3, d4] => { results := [.lit (.bool true)], args := [d1, d2, d3, d4] }
  | _ => none }
def deviceLimitRow : OpenClaim := { program := "ytdinbhanekpjoaa", sum := "e59706a9ca4fcc978e27bec1dd3dbc74b015c7779660178c3c7132ed7bb5138a", func := "revetment/revetmentlaw07.DeviceLimit", spec := "deviceLimit", unfollowed := true, recurses := true, plainKeys := false, apart := false }
def DeviceLimitSaid : Prop := deviceLimitRow.holds Try.pinned (OpenSpec.ofChange deviceLimitSpec)

/-- ITS FALSE NEIGHBOUR: 'it returns false'. Refute it at one input. -/
def deviceLimitWrong : ChangeSpec := { name := "deviceLimit", fn := fun _ => fun
  | [d1, d2, d3, d4] => { results := [.lit (.bool false)], args := [d1, d2, d3, d4] }
  | _ => none }
def DeviceLimitWrongFalsely : Prop := deviceLimitRow.holds Try.pinned (OpenSpec.ofChange deviceLimitWrong)

/-- 'revetmentlaw07.DeviceFlushes': WHATEVER THE INPUT: true; the input reads as it did. -/
def deviceFlushesSpec : ChangeSpec := { name := "deviceFlushes", fn := fun _ => fun
  | [d1, d2, d3, d4, d5, d6] => { results := [.lit (.bool true)], args := [d1, d2, d3, d4, d5, d6] }
  | _ => none }
def deviceFlushesRow : OpenClaim := { program := "ytdinbhanekpjoaa", sum := "e59706a9ca4fcc978e27bec1dd3dbc74b015c7779660178c3c7132ed7bb5138a", func := "revetment/revetmentlaw07.DeviceFlushes", spec := "deviceFlushes", unfollowed := true, recurses := true, plainKeys := false, apart := false }
def DeviceFlushesSaid : Prop := deviceFlushesRow.holds Try.pinned (OpenSpec.ofChange deviceFlushesSpec)

/-- ITS FALSE NEIGHBOUR: 'it returns false'. Refute it at one input. -/
def deviceFlushesWrong : ChangeSpec := { name := "deviceFlushes", fn := fun _ => fun
  | [d1, d2, d3, d4, d5, d6] => { results := [.lit (.bool false)], args := [d1, d2, d3, d4, d5, d6] }
  | _ => none }
def DeviceFlushesWrongFalsely : Prop := deviceFlushesRow.holds Try.pinned (OpenSpec.ofChange deviceFlushesWrong)

/-- 'revetmentlaw07.DeviceLooks': WHATEVER THE INPUT: true; the input reads as it did. -/
def deviceLooksSpec : ChangeSpec := { name := "deviceLooks", fn := fun _ => fun
  | [d1, d2, d3, d4, d5] => { results := [.lit (.bool true)], args := [d1, d2, d3, d4, d5] }
  | _ => none }
def deviceLooksRow : OpenClaim := { program := "ytdinbhanekpjoaa", sum := "e59706a9ca4fcc978e27bec1dd3dbc74b015c7779660178c3c7132ed7bb5138a", func := "revetment/revetmentlaw07.DeviceLooks", spec := "deviceLooks", unfollowed := true, recurses := true, plainKeys := false, apart := false }
def DeviceLooksSaid : Prop := deviceLooksRow.holds Try.pinned (OpenSpec.ofChange deviceLooksSpec)

/-- ITS FALSE NEIGHBOUR: 'it returns false'. Refute it at one input. -/
def deviceLooksWrong : ChangeSpec := { name := "deviceLooks", fn := fun _ => fun
  | [d1, d2, d3, d4, d5] => { results := [.lit (.bool false)], args := [d1, d2, d3, d4, d5] }
  | _ => none }
def DeviceLooksWrongFalsely : Prop := deviceLooksRow.holds Try.pinned (OpenSpec.ofChange deviceLooksWrong)

/-- 'revetmentlaw07.DevicePlays': WHATEVER THE INPUT: true; the input reads as it did. -/
def devicePlaysSpec : ChangeSpec := { name := "devicePlays", fn := fun _ => fun
  | [d1, d2, d3, d4] => { results := [.lit (.bool true)], args := [d1, d2, d3, d4] }
  | _ => none }
def devicePlaysRow : OpenClaim := { program := "ytdinbhanekpjoaa", sum := "e59706a9ca4fcc978e27bec1dd3dbc74b015c7779660178c3c7132ed7bb5138a", func := "revetment/revetmentlaw07.DevicePlays", spec := "devicePlays", unfollowed := true, recurses := true, plainKeys := false, apart := false }
def DevicePlaysSaid : Prop := devicePlaysRow.holds Try.pinned (OpenSpec.ofChange devicePlaysSpec)

/-- ITS FALSE NEIGHBOUR: 'it returns false'. Refute it at one input. -/
def devicePlaysWrong : ChangeSpec := { name := "devicePlays", fn := fun _ => fun
  | [d1, d2, d3, d4] => { results := [.lit (.bool false)], args := [d1, d2, d3, d4] }
  | _ => none }
def DevicePlaysWrongFalsely : Prop := devicePlaysRow.holds Try.pinned (OpenSpec.ofChange devicePlaysWrong)

/-- 'revetmentlaw07.DeviceDown': WHATEVER THE INPUT: true; the input reads as it did. -/
def deviceDownSpec : ChangeSpec := { name := "deviceDown", fn := fun _ => fun
  | [d1, d2, d3, d4, d5] => { results := [.lit (.bool true)], args := [d1, d2, d3, d4, d5] }
  | _ => none }
def deviceDownRow : OpenClaim := { program := "ytdinbhanekpjoaa", sum := "e59706a9ca4fcc978e27bec1dd3dbc74b015c7779660178c3c7132ed7bb5138a", func := "revetment/revetmentlaw07.DeviceDown", spec := "deviceDown", unfollowed := true, recurses := true, plainKeys := false, apart := false }
def DeviceDownSaid : Prop := deviceDownRow.holds Try.pinned (OpenSpec.ofChange deviceDownSpec)

/-- ITS FALSE NEIGHBOUR: 'it returns false'. Refute it at one input. -/
def deviceDownWrong : ChangeSpec := { name := "deviceDown", fn := fun _ => fun
  | [d1, d2, d3, d4, d5] => { results := [.lit (.bool false)], args := [d1, d2, d3, d4, d5] }
  | _ => none }
def DeviceDownWrongFalsely : Prop := deviceDownRow.holds Try.pinned (OpenSpec.ofChange deviceDownWrong)

/-- 'revetmentlaw08.PlanFailed': WHATEVER THE INPUT: true; the input reads as it did. -/
def planFailedSpec : ChangeSpec := { name := "planFailed", fn := fun _ => fun
  | [d1, d2, d3, d4] => { results := [.lit (.bool true)], args := [d1, d2, d3, d4] }
  | _ => none }
def planFailedRow : OpenClaim := { program := "ytdinbhanekpjoaa", sum := "e59706a9ca4fcc978e27bec1dd3dbc74b015c7779660178c3c7132ed7bb5138a", func := "revetment/revetmentlaw08.PlanFailed", spec := "planFailed", inPlace := ["slices.overlaps[revetment/plan.Event]"], unfollowed := true, recurses := true, plainKeys := false, apart := false }
def PlanFailedSaid : Prop := planFailedRow.holds Try.pinned (OpenSpec.ofChange planFailedSpec)

/-- ITS FALSE NEIGHBOUR: 'it returns false'. Refute it at one input. -/
def planFailedWrong : ChangeSpec := { name := "planFailed", fn := fun _ => fun
  | [d1, d2, d3, d4] => { results := [.lit (.bool false)], args := [d1, d2, d3, d4] }
  | _ => none }
def PlanFailedWrongFalsely : Prop := planFailedRow.holds Try.pinned (OpenSpec.ofChange planFailedWrong)

/-- 'revetmentlaw08.PlanOrder': WHATEVER THE INPUT: true; the input reads as it did. -/
def planOrderSpec : ChangeSpec := { name := "planOrder", fn := fun _ => fun
  | [d1, d2, d3, d4] => { results := [.lit (.bool true)], args := [d1, d2, d3, d4] }
  | _ => none }
def planOrderRow : OpenClaim := { program := "ytdinbhanekpjoaa", sum := "e59706a9ca4fcc978e27bec1dd3dbc74b015c7779660178c3c7132ed7bb5138a", func := "revetment/revetmentlaw08.PlanOrder", spec := "planOrder", inPlace := ["slices.overlaps[revetment/plan.Event]"], unfollowed := true, recurses := true, plainKeys := false, apart := false }
def PlanOrderSaid : Prop := planOrderRow.holds Try.pinned (OpenSpec.ofChange planOrderSpec)

/-- ITS FALSE NEIGHBOUR: 'it returns false'. Refute it at one input. -/
def planOrderWrong : ChangeSpec := { name := "planOrder", fn := fun _ => fun
  | [d1, d2, d3, d4] => { results := [.lit (.bool false)], args := [d1, d2, d3, d4] }
  | _ => none }
def PlanOrderWrongFalsely : Prop := planOrderRow.holds Try.pinned (OpenSpec.ofChange planOrderWrong)

/-- 'revetmentlaw08.PlanCalm': WHATEVER THE INPUT: true; the input reads as it did. -/
def planCalmSpec : ChangeSpec := { name := "planCalm", fn := fun _ => fun
  | [d1, d2, d3, d4] => { results := [.lit (.bool true)], args := [d1, d2, d3, d4] }
  | _ => none }
def planCalmRow : OpenClaim := { program := "ytdinbhanekpjoaa", sum := "e59706a9ca4fcc978e27bec1dd3dbc74b015c7779660178c3c7132ed7bb5138a", func := "revetment/revetmentlaw08.PlanCalm", spec := "planCalm", inPlace := ["slices.overlaps[revetment/plan.Event]"], unfollowed := true, recurses := true, plainKeys := false, apart := false }
def PlanCalmSaid : Prop := planCalmRow.holds Try.pinned (OpenSpec.ofChange planCalmSpec)

/-- ITS FALSE NEIGHBOUR: 'it returns false'. Refute it at one input. -/
def planCalmWrong : ChangeSpec := { name := "planCalm", fn := fun _ => fun
  | [d1, d2, d3, d4] => { results := [.lit (.bool false)], args := [d1, d2, d3, d4] }
  | _ => none }
def PlanCalmWrongFalsely : Prop := planCalmRow.holds Try.pinned (OpenSpec.ofChange planCalmWrong)

/-- 'revetmentlaw08.PlanSpoilt': WHATEVER THE INPUT: true; the input reads as it did. -/
def planSpoiltSpec : ChangeSpec := { name := "planSpoilt", fn := fun _ => fun
  | [d1, d2, d3, d4] => { results := [.lit (.bool true)], args := [d1, d2, d3, d4] }
  | _ => none }
def planSpoiltRow : OpenClaim := { program := "ytdinbhanekpjoaa", sum := "e59706a9ca4fcc978e27bec1dd3dbc74b015c7779660178c3c7132ed7bb5138a", func := "revetment/revetmentlaw08.PlanSpoilt", spec := "planSpoilt", inPlace := ["slices.overlaps[revetment/plan.Event]"], unfollowed := true, recurses := true, plainKeys := false, apart := false }
def PlanSpoiltSaid : Prop := planSpoiltRow.holds Try.pinned (OpenSpec.ofChange planSpoiltSpec)

/-- ITS FALSE NEIGHBOUR: 'it returns false'. Refute it at one input. -/
def planSpoiltWrong : ChangeSpec := { name := "planSpoilt", fn := fun _ => fun
  | [d1, d2, d3, d4] => { results := [.lit (.bool false)], args := [d1, d2, d3, d4] }
  | _ => none }
def PlanSpoiltWrongFalsely : Prop := planSpoiltRow.holds Try.pinned (OpenSpec.ofChange planSpoiltWrong)

/-- 'revetmentlaw08.PlanPlays': WHATEVER THE INPUT: true; the input reads as it did. -/
def planPlaysSpec : ChangeSpec := { name := "planPlays", fn := fun _ => fun
  | [d1, d2, d3, d4] => { results := [.lit (.bool true)], args := [d1, d2, d3, d4] }
  | _ => none }
def planPlaysRow : OpenClaim := { program := "ytdinbhanekpjoaa", sum := "e59706a9ca4fcc978e27bec1dd3dbc74b015c7779660178c3c7132ed7bb5138a", func := "revetment/revetmentlaw08.PlanPlays", spec := "planPlays", inPlace := ["slices.overlaps[revetment/plan.Event]"], unfollowed := true, recurses := true, plainKeys := false, apart := false }
def PlanPlaysSaid : Prop := planPlaysRow.holds Try.pinned (OpenSpec.ofChange planPlaysSpec)

/-- ITS FALSE NEIGHBOUR: 'it returns false'. Refute it at one input. -/
def planPlaysWrong : ChangeSpec := { name := "planPlays", fn := fun _ => fun
  | [d1, d2, d3, d4] => { results := [.lit (.bool false)], args := [d1, d2, d3, d4] }
  | _ => none }
def PlanPlaysWrongFalsely : Prop := planPlaysRow.holds Try.pinned (OpenSpec.ofChange planPlaysWrong)

/- THE SECOND FORM. 'bulk': how many values and letters a reading holds, each counted each time it is reached (what is shared counts as often as it is met; a slice's spare places count too). A statement '..UptoSaid' is the law's where the arguments, and the package variables that the reading takes, are together of bulk at most 1048576: NARROWER than '..Said'. Prove '..Said' where nothing that the law and all that it calls make is longer than what came in: it says more and counts as full. Else prove '..UptoSaid'. A law counts once. -/
mutual
def uptoBulk {H : Type} : DataW H → Nat
  | .lit (.string bytes) => bytes.length + 1
  | .lit _ => 1
  | .nil => 1
  | .ptr d => uptoBulk d + 1
  | .slice elems spare => uptoBulkAll elems + uptoBulkAll spare + 1
  | .agg parts => uptoBulkAll parts + 1
  | .iface _ d => uptoBulk d + 1
  | .map entries => uptoBulkEntries entries + 1
  | .held _ => 1
def uptoBulkAll {H : Type} : List (DataW H) → Nat
  | [] => 0
  | d :: r => uptoBulk d + uptoBulkAll r
def uptoBulkEntries {H : Type} : List (Lit × DataW H) → Nat
  | [] => 0
  | x :: r => uptoBulkEntry x + uptoBulkEntries r
def uptoBulkEntry {H : Type} : Lit × DataW H → Nat
  | (.string bytes, d) => bytes.length + uptoBulk d + 1
  | (_, d) => uptoBulk d + 1
 end
def uptoSmall : (H : Type) → List (DataW H) → Bool := fun _ ds => decide (uptoBulkAll ds ≤ 1048576)
def OpenSpec.upto (s : _root_.Go.ChangeSpec) : _root_.Go.OpenSpec := { _root_.Go.OpenSpec.ofChange s with cond := some uptoSmall }

/-- 'revetmentlaw07.DeviceLimit', WHERE WHAT IT READS IS OF BULK AT MOST 1048576: true; the input reads as it did. -/
def deviceLimitUptoRow : OpenClaim := { program := "ytdinbhanekpjoaa", sum := "e59706a9ca4fcc978e27bec1dd3dbc74b015c7779660178c3c7132ed7bb5138a", func := "revetment/revetmentlaw07.DeviceLimit", spec := "deviceLimit", unfollowed := true, recurses := true, plainKeys := false, apart := false, narrowed := true }
def DeviceLimitUptoSaid : Prop := deviceLimitUptoRow.holds Try.pinned (OpenSpec.upto deviceLimitSpec)

/-- 'revetmentlaw07.DeviceFlushes', WHERE WHAT IT READS IS OF BULK AT MOST 1048576: true; the input reads as it did. -/
def deviceFlushesUptoRow : OpenClaim := { program := "ytdinbhanekpjoaa", sum := "e59706a9ca4fcc978e27bec1dd3dbc74b015c7779660178c3c7132ed7bb5138a", func := "revetment/revetmentlaw07.DeviceFlushes", spec := "deviceFlushes", unfollowed := true, recurses := true, plainKeys := false, apart := false, narrowed := true }
def DeviceFlushesUptoSaid : Prop := deviceFlushesUptoRow.holds Try.pinned (OpenSpec.upto deviceFlushesSpec)

/-- 'revetmentlaw07.DeviceLooks', WHERE WHAT IT READS IS OF BULK AT MOST 1048576: true; the input reads as it did. -/
def deviceLooksUptoRow : OpenClaim := { program := "ytdinbhanekpjoaa", sum := "e59706a9ca4fcc978e27bec1dd3dbc74b015c7779660178c3c7132ed7bb5138a", func := "revetment/revetmentlaw07.DeviceLooks", spec := "deviceLooks", unfollowed := true, recurses := true, plainKeys := false, apart := false, narrowed := true }
def DeviceLooksUptoSaid : Prop := deviceLooksUptoRow.holds Try.pinned (OpenSpec.upto deviceLooksSpec)

/-- 'revetmentlaw07.DevicePlays', WHERE WHAT IT READS IS OF BULK AT MOST 1048576: true; the input reads as it did. -/
def devicePlaysUptoRow : OpenClaim := { program := "ytdinbhanekpjoaa", sum := "e59706a9ca4fcc978e27bec1dd3dbc74b015c7779660178c3c7132ed7bb5138a", func := "revetment/revetmentlaw07.DevicePlays", spec := "devicePlays", unfollowed := true, recurses := true, plainKeys := false, apart := false, narrowed := true }
def DevicePlaysUptoSaid : Prop := devicePlaysUptoRow.holds Try.pinned (OpenSpec.upto devicePlaysSpec)

/-- 'revetmentlaw07.DeviceDown', WHERE WHAT IT READS IS OF BULK AT MOST 1048576: true; the input reads as it did. -/
def deviceDownUptoRow : OpenClaim := { program := "ytdinbhanekpjoaa", sum := "e59706a9ca4fcc978e27bec1dd3dbc74b015c7779660178c3c7132ed7bb5138a", func := "revetment/revetmentlaw07.DeviceDown", spec := "deviceDown", unfollowed := true, recurses := true, plainKeys := false, apart := false, narrowed := true }
def DeviceDownUptoSaid : Prop := deviceDownUptoRow.holds Try.pinned (OpenSpec.upto deviceDownSpec)

/-- 'revetmentlaw08.PlanFailed', WHERE WHAT IT READS IS OF BULK AT MOST 1048576: true; the input reads as it did. -/
def planFailedUptoRow : OpenClaim := { program := "ytdinbhanekpjoaa", sum := "e59706a9ca4fcc978e27bec1dd3dbc74b015c7779660178c3c7132ed7bb5138a", func := "revetment/revetmentlaw08.PlanFailed", spec := "planFailed", inPlace := ["slices.overlaps[revetment/plan.Event]"], unfollowed := true, recurses := true, plainKeys := false, apart := false, narrowed := true }
def PlanFailedUptoSaid : Prop := planFailedUptoRow.holds Try.pinned (OpenSpec.upto planFailedSpec)

/-- 'revetmentlaw08.PlanOrder', WHERE WHAT IT READS IS OF BULK AT MOST 1048576: true; the input reads as it did. -/
def planOrderUptoRow : OpenClaim := { program := "ytdinbhanekpjoaa", sum := "e59706a9ca4fcc978e27bec1dd3dbc74b015c7779660178c3c7132ed7bb5138a", func := "revetment/revetmentlaw08.PlanOrder", spec := "planOrder", inPlace := ["slices.overlaps[revetment/plan.Event]"], unfollowed := true, recurses := true, plainKeys := false, apart := false, narrowed := true }
def PlanOrderUptoSaid : Prop := planOrderUptoRow.holds Try.pinned (OpenSpec.upto planOrderSpec)

/-- 'revetmentlaw08.PlanCalm', WHERE WHAT IT READS IS OF BULK AT MOST 1048576: true; the input reads as it did. -/
def planCalmUptoRow : OpenClaim := { program := "ytdinbhanekpjoaa", sum := "e59706a9ca4fcc978e27bec1dd3dbc74b015c7779660178c3c7132ed7bb5138a", func := "revetment/revetmentlaw08.PlanCalm", spec := "planCalm", inPlace := ["slices.overlaps[revetment/plan.Event]"], unfollowed := true, recurses := true, plainKeys := false, apart := false, narrowed := true }
def PlanCalmUptoSaid : Prop := planCalmUptoRow.holds Try.pinned (OpenSpec.upto planCalmSpec)

/-- 'revetmentlaw08.PlanSpoilt', WHERE WHAT IT READS IS OF BULK AT MOST 1048576: true; the input reads as it did. -/
def planSpoiltUptoRow : OpenClaim := { program := "ytdinbhanekpjoaa", sum := "e59706a9ca4fcc978e27bec1dd3dbc74b015c7779660178c3c7132ed7bb5138a", func := "revetment/revetmentlaw08.PlanSpoilt", spec := "planSpoilt", inPlace := ["slices.overlaps[revetment/plan.Event]"], unfollowed := true, recurses := true, plainKeys := false, apart := false, narrowed := true }
def PlanSpoiltUptoSaid : Prop := planSpoiltUptoRow.holds Try.pinned (OpenSpec.upto planSpoiltSpec)

/-- 'revetmentlaw08.PlanPlays', WHERE WHAT IT READS IS OF BULK AT MOST 1048576: true; the input reads as it did. -/
def planPlaysUptoRow : OpenClaim := { program := "ytdinbhanekpjoaa", sum := "e59706a9ca4fcc978e27bec1dd3dbc74b015c7779660178c3c7132ed7bb5138a", func := "revetment/revetmentlaw08.PlanPlays", spec := "planPlays", inPlace := ["slices.overlaps[revetment/plan.Event]"], unfollowed := true, recurses := true, plainKeys := false, apart := false, narrowed := true }
def PlanPlaysUptoSaid : Prop := planPlaysUptoRow.holds Try.pinned (OpenSpec.upto planPlaysSpec)

end Rows
end Go.Proofs.Ytdinbhanekpjoaa

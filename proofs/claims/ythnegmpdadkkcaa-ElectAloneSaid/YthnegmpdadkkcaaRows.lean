/-
  No cell of these rows narrows 'for every input' (looked for: loops, veiled, ifaces, maps, wideKeys, modest, calm, conditions, laid).
  DERIVED. THE GIVEN ROWS OF THIS SEAT. 9 by the template 'for every input the law returns true; each argument reads behind the call as it read before'; 0 by the template 'total and deterministic' (their statements: YthnegmpdadkkcaaTotals.lean).
  GIVEN WITH THE SEED: the statements are not yours to turn. If you find one false, say at which input.
  Laid BY PROGRAM, IN A SANDBOX (cutbox-rows.mjs): the forced cells as the released guide's own fill.sh prints them over the translation c3136d6bbd7644bc… (all of the seat's roots in one cut). By AI agents, Wed Nov 11 2026. No macro, syntax, notation, axiom, sorry.
-/
import Derived.Test.YthnegmpdadkkcaaChecked
import GoSem.Claim
import GoSem.ClaimJoined
import GoSem.ClaimMapViews
import Derived.JoinedTies
import Derived.KernelRfl
namespace Go.Proofs.Ythnegmpdadkkcaa
/- THE CELL 'sum', in the pinned program and in every row, IS THE sha256 OF THE DUMP (.gsa) THAT YthnegmpdadkkcaaProg.lean LOADS. Nothing in Lean hashes anything: it is a label: what it is worth is what the hold of that sum in a sandbox is worth. -/
noncomputable def Try.pinned : Pinned := { name := "ythnegmpdadkkcaa", sum := "c3136d6bbd7644bc29ea5e252281f68bb36464975e380ae70b68b51e7a4a14f7", checked := Try.checked }
namespace Rows
def none {H : Type} : Left H := { results := [], args := [] }

/-- 'annonalaw04.CodecWrites': WHATEVER THE INPUT: true; the input reads as it did. -/
def codecWritesSpec : ChangeSpec := { name := "codecWrites", fn := fun _ => fun
  | [d1, d2] => { results := [.lit (.bool true)], args := [d1, d2] }
  | _ => none }
def codecWritesRow : OpenClaim := { program := "ythnegmpdadkkcaa", sum := "c3136d6bbd7644bc29ea5e252281f68bb36464975e380ae70b68b51e7a4a14f7", func := "annona/annonalaw04.CodecWrites", spec := "codecWrites", apart := false }
def CodecWritesSaid : Prop := codecWritesRow.holds Try.pinned (OpenSpec.ofChange codecWritesSpec)

/-- ITS FALSE NEIGHBOUR: 'it returns false'. Refute it at one input. -/
def codecWritesWrong : ChangeSpec := { name := "codecWrites", fn := fun _ => fun
  | [d1, d2] => { results := [.lit (.bool false)], args := [d1, d2] }
  | _ => none }
def CodecWritesWrongFalsely : Prop := codecWritesRow.holds Try.pinned (OpenSpec.ofChange codecWritesWrong)

/-- 'annonalaw04.CodecReads': WHATEVER THE INPUT: true; the input reads as it did. -/
def codecReadsSpec : ChangeSpec := { name := "codecReads", fn := fun _ => fun
  | [d1, d2] => { results := [.lit (.bool true)], args := [d1, d2] }
  | _ => none }
def codecReadsRow : OpenClaim := { program := "ythnegmpdadkkcaa", sum := "c3136d6bbd7644bc29ea5e252281f68bb36464975e380ae70b68b51e7a4a14f7", func := "annona/annonalaw04.CodecReads", spec := "codecReads", apart := false }
def CodecReadsSaid : Prop := codecReadsRow.holds Try.pinned (OpenSpec.ofChange codecReadsSpec)

/-- ITS FALSE NEIGHBOUR: 'it returns false'. Refute it at one input. -/
def codecReadsWrong : ChangeSpec := { name := "codecReads", fn := fun _ => fun
  | [d1, d2] => { results := [.lit (.bool false)], args := [d1, d2] }
  | _ => none }
def CodecReadsWrongFalsely : Prop := codecReadsRow.holds Try.pinned (OpenSpec.ofChange codecReadsWrong)

/-- 'annonalaw04.CodecBack': WHATEVER THE INPUT: true; the input reads as it did. -/
def codecBackSpec : ChangeSpec := { name := "codecBack", fn := fun _ => fun
  | [d1, d2] => { results := [.lit (.bool true)], args := [d1, d2] }
  | _ => none }
def codecBackRow : OpenClaim := { program := "ythnegmpdadkkcaa", sum := "c3136d6bbd7644bc29ea5e252281f68bb36464975e380ae70b68b51e7a4a14f7", func := "annona/annonalaw04.CodecBack", spec := "codecBack", apart := false }
def CodecBackSaid : Prop := codecBackRow.holds Try.pinned (OpenSpec.ofChange codecBackSpec)

/-- ITS FALSE NEIGHBOUR: 'it returns false'. Refute it at one input. -/
def codecBackWrong : ChangeSpec := { name := "codecBack", fn := fun _ => fun
  | [d1, d2] => { results := [.lit (.bool false)], args := [d1, d2] }
  | _ => none }
def CodecBackWrongFalsely : Prop := codecBackRow.holds Try.pinned (OpenSpec.ofChange codecBackWrong)

/-- 'annonalaw03.ConfTells': WHATEVER THE INPUT: true; the input reads as it did. -/
def confTellsSpec : ChangeSpec := { name := "confTells", fn := fun _ => fun
  | [d1, d2, d3] => { results := [.lit (.bool true)], args := [d1, d2, d3] }
  | _ => none }
def confTellsRow : OpenClaim := { program := "ythnegmpdadkkcaa", sum := "c3136d6bbd7644bc29ea5e252281f68bb36464975e380ae70b68b51e7a4a14f7", func := "annona/annonalaw03.ConfTells", spec := "confTells", unfollowed := true, recurses := true, apart := false }
def ConfTellsSaid : Prop := confTellsRow.holds Try.pinned (OpenSpec.ofChange confTellsSpec)

/-- ITS FALSE NEIGHBOUR: 'it returns false'. Refute it at one input. -/
def confTellsWrong : ChangeSpec := { name := "confTells", fn := fun _ => fun
  | [d1, d2, d3] => { results := [.lit (.bool false)], args := [d1, d2, d3] }
  | _ => none }
def ConfTellsWrongFalsely : Prop := confTellsRow.holds Try.pinned (OpenSpec.ofChange confTellsWrong)

/-- 'annonalaw17.ElectPlays': WHATEVER THE INPUT: true; the input reads as it did. -/
def electPlaysSpec : ChangeSpec := { name := "electPlays", fn := fun _ => fun
  | [d1, d2] => { results := [.lit (.bool true)], args := [d1, d2] }
  | _ => none }
def electPlaysRow : OpenClaim := { program := "ythnegmpdadkkcaa", sum := "c3136d6bbd7644bc29ea5e252281f68bb36464975e380ae70b68b51e7a4a14f7", func := "annona/annonalaw17.ElectPlays", spec := "electPlays", apart := false }
def ElectPlaysSaid : Prop := electPlaysRow.holds Try.pinned (OpenSpec.ofChange electPlaysSpec)

/-- ITS FALSE NEIGHBOUR: 'it returns false'. Refute it at one input. -/
def electPlaysWrong : ChangeSpec := { name := "electPlays", fn := fun _ => fun
  | [d1, d2] => { results := [.lit (.bool false)], args := [d1, d2] }
  | _ => none }
def ElectPlaysWrongFalsely : Prop := electPlaysRow.holds Try.pinned (OpenSpec.ofChange electPlaysWrong)

/-- 'annonalaw17.ElectAlone': WHATEVER THE INPUT: true; the input reads as it did. -/
def electAloneSpec : ChangeSpec := { name := "electAlone", fn := fun _ => fun
  | [d1, d2] => { results := [.lit (.bool true)], args := [d1, d2] }
  | _ => none }
def electAloneRow : OpenClaim := { program := "ythnegmpdadkkcaa", sum := "c3136d6bbd7644bc29ea5e252281f68bb36464975e380ae70b68b51e7a4a14f7", func := "annona/annonalaw17.ElectAlone", spec := "electAlone", apart := false }
def ElectAloneSaid : Prop := electAloneRow.holds Try.pinned (OpenSpec.ofChange electAloneSpec)

/-- ITS FALSE NEIGHBOUR: 'it returns false'. Refute it at one input. -/
def electAloneWrong : ChangeSpec := { name := "electAlone", fn := fun _ => fun
  | [d1, d2] => { results := [.lit (.bool false)], args := [d1, d2] }
  | _ => none }
def ElectAloneWrongFalsely : Prop := electAloneRow.holds Try.pinned (OpenSpec.ofChange electAloneWrong)

/-- 'annonalaw15.RelayPlays': WHATEVER THE INPUT: true; the input reads as it did. -/
def relayPlaysSpec : ChangeSpec := { name := "relayPlays", fn := fun _ => fun
  | [d] => { results := [.lit (.bool true)], args := [d] }
  | _ => none }
def relayPlaysRow : OpenClaim := { program := "ythnegmpdadkkcaa", sum := "c3136d6bbd7644bc29ea5e252281f68bb36464975e380ae70b68b51e7a4a14f7", func := "annona/annonalaw15.RelayPlays", spec := "relayPlays", inPlace := ["sync/atomic.AddInt64", "sync/atomic.LoadInt64"], unfollowed := true, recurses := true, apart := false }
def RelayPlaysSaid : Prop := relayPlaysRow.holds Try.pinned (OpenSpec.ofChange relayPlaysSpec)

/-- ITS FALSE NEIGHBOUR: 'it returns false'. Refute it at one input. -/
def relayPlaysWrong : ChangeSpec := { name := "relayPlays", fn := fun _ => fun
  | [d] => { results := [.lit (.bool false)], args := [d] }
  | _ => none }
def RelayPlaysWrongFalsely : Prop := relayPlaysRow.holds Try.pinned (OpenSpec.ofChange relayPlaysWrong)

/-- 'annonalaw15.RelaySame': WHATEVER THE INPUT: true; the input reads as it did. -/
def relaySameSpec : ChangeSpec := { name := "relaySame", fn := fun _ => fun
  | [d1, d2] => { results := [.lit (.bool true)], args := [d1, d2] }
  | _ => none }
def relaySameRow : OpenClaim := { program := "ythnegmpdadkkcaa", sum := "c3136d6bbd7644bc29ea5e252281f68bb36464975e380ae70b68b51e7a4a14f7", func := "annona/annonalaw15.RelaySame", spec := "relaySame", inPlace := ["sync/atomic.AddInt64", "sync/atomic.LoadInt64"], unfollowed := true, recurses := true, apart := false }
def RelaySameSaid : Prop := relaySameRow.holds Try.pinned (OpenSpec.ofChange relaySameSpec)

/-- ITS FALSE NEIGHBOUR: 'it returns false'. Refute it at one input. -/
def relaySameWrong : ChangeSpec := { name := "relaySame", fn := fun _ => fun
  | [d1, d2] => { results := [.lit (.bool false)], args := [d1, d2] }
  | _ => none }
def RelaySameWrongFalsely : Prop := relaySameRow.holds Try.pinned (OpenSpec.ofChange relaySameWrong)

/-- 'annonalaw11.LeasePlays': WHATEVER THE INPUT: true; the input reads as it did. -/
def leasePlaysSpec : ChangeSpec := { name := "leasePlays", fn := fun _ => fun
  | [d1, d2, d3] => { results := [.lit (.bool true)], args := [d1, d2, d3] }
  | _ => none }
def leasePlaysRow : OpenClaim := { program := "ythnegmpdadkkcaa", sum := "c3136d6bbd7644bc29ea5e252281f68bb36464975e380ae70b68b51e7a4a14f7", func := "annona/annonalaw11.LeasePlays", spec := "leasePlays", unfollowed := true, recurses := true, apart := false }
def LeasePlaysSaid : Prop := leasePlaysRow.holds Try.pinned (OpenSpec.ofChange leasePlaysSpec)

/-- ITS FALSE NEIGHBOUR: 'it returns false'. Refute it at one input. -/
def leasePlaysWrong : ChangeSpec := { name := "leasePlays", fn := fun _ => fun
  | [d1, d2, d3] => { results := [.lit (.bool false)], args := [d1, d2, d3] }
  | _ => none }
def LeasePlaysWrongFalsely : Prop := leasePlaysRow.holds Try.pinned (OpenSpec.ofChange leasePlaysWrong)

/- THE SECOND FORM. 'bulk': how many values and letters a reading holds, each counted each time it is reached (what is shared counts as often as it is met; a slice's spare places count too). A statement '..UptoSaid' is the law's where the arguments, and the package variables that the reading takes, are together of bulk at most 1048576: NARROWER than '..Said'. Prove '..Said' where nothing that the law and all that it calls make is longer than what came in: it says more and counts as full. Else prove '..UptoSaid'. A law counts once. -/
mutual
def uptoBulk {H : Type} : DataW H → Nat
  | .lit (.string bytes) => bytes.length + 1
  | .lit _ => 1
  | .nil => 1
  | .ptr d => uptoBulk d + 1
  | .slice elems spare => uptoBulkAll elems + uptoBulkAll spare + 1
  | .agg parts => uptoBulkAll parts + 1
  | .iface _ d => uptoBulk d + 1
  | .map entries => uptoBulkEntries entries + 1
  | .held _ => 1
def uptoBulkAll {H : Type} : List (DataW H) → Nat
  | [] => 0
  | d :: r => uptoBulk d + uptoBulkAll r
def uptoBulkEntries {H : Type} : List (Lit × DataW H) → Nat
  | [] => 0
  | x :: r => uptoBulkEntry x + uptoBulkEntries r
def uptoBulkEntry {H : Type} : Lit × DataW H → Nat
  | (.string bytes, d) => bytes.length + uptoBulk d + 1
  | (_, d) => uptoBulk d + 1
 end
def uptoSmall : (H : Type) → List (DataW H) → Bool := fun _ ds => decide (uptoBulkAll ds ≤ 1048576)
def OpenSpec.upto (s : _root_.Go.ChangeSpec) : _root_.Go.OpenSpec := { _root_.Go.OpenSpec.ofChange s with cond := some uptoSmall }

/-- 'annonalaw04.CodecWrites', WHERE WHAT IT READS IS OF BULK AT MOST 1048576: true; the input reads as it did. -/
def codecWritesUptoRow : OpenClaim := { program := "ythnegmpdadkkcaa", sum := "c3136d6bbd7644bc29ea5e252281f68bb36464975e380ae70b68b51e7a4a14f7", func := "annona/annonalaw04.CodecWrites", spec := "codecWrites", apart := false, narrowed := true }
def CodecWritesUptoSaid : Prop := codecWritesUptoRow.holds Try.pinned (OpenSpec.upto codecWritesSpec)

/-- 'annonalaw04.CodecReads', WHERE WHAT IT READS IS OF BULK AT MOST 1048576: true; the input reads as it did. -/
def codecReadsUptoRow : OpenClaim := { program := "ythnegmpdadkkcaa", sum := "c3136d6bbd7644bc29ea5e252281f68bb36464975e380ae70b68b51e7a4a14f7", func := "annona/annonalaw04.CodecReads", spec := "codecReads", apart := false, narrowed := true }
def CodecReadsUptoSaid : Prop := codecReadsUptoRow.holds Try.pinned (OpenSpec.upto codecReadsSpec)

/-- 'annonalaw04.CodecBack', WHERE WHAT IT READS IS OF BULK AT MOST 1048576: true; the input reads as it did. -/
def codecBackUptoRow : OpenClaim := { program := "ythnegmpdadkkcaa", sum := "c3136d6bbd7644bc29ea5e252281f68bb36464975e380ae70b68b51e7a4a14f7", func := "annona/annonalaw04.CodecBack", spec := "codecBack", apart := false, narrowed := true }
def CodecBackUptoSaid : Prop := codecBackUptoRow.holds Try.pinned (OpenSpec.upto codecBackSpec)

/-- 'annonalaw03.ConfTells', WHERE WHAT IT READS IS OF BULK AT MOST 1048576: true; the input reads as it did. -/
def confTellsUptoRow : OpenClaim := { program := "ythnegmpdadkkcaa", sum := "c3136d6bbd7644bc29ea5e252281f68bb36464975e380ae70b68b51e7a4a14f7", func := "annona/annonalaw03.ConfTells", spec := "confTells", unfollowed := true, recurses := true, apart := false, narrowed := true }
def ConfTellsUptoSaid : Prop := confTellsUptoRow.holds Try.pinned (OpenSpec.upto confTellsSpec)

/-- 'annonalaw17.ElectPlays', WHERE WHAT IT READS IS OF BULK AT MOST 1048576: true; the input reads as it did. -/
def electPlaysUptoRow : OpenClaim := { program := "ythnegmpdadkkcaa", sum := "c3136d6bbd7644bc29ea5e252281f68bb36464975e380ae70b68b51e7a4a14f7", func := "annona/annonalaw17.ElectPlays", spec := "electPlays", apart := false, narrowed := true }
def ElectPlaysUptoSaid : Prop := electPlaysUptoRow.holds Try.pinned (OpenSpec.upto electPlaysSpec)

/-- 'annonalaw17.ElectAlone', WHERE WHAT IT READS IS OF BULK AT MOST 1048576: true; the input reads as it did. -/
def electAloneUptoRow : OpenClaim := { program := "ythnegmpdadkkcaa", sum := "c3136d6bbd7644bc29ea5e252281f68bb36464975e380ae70b68b51e7a4a14f7", func := "annona/annonalaw17.ElectAlone", spec := "electAlone", apart := false, narrowed := true }
def ElectAloneUptoSaid : Prop := electAloneUptoRow.holds Try.pinned (OpenSpec.upto electAloneSpec)

/-- 'annonalaw15.RelayPlays', WHERE WHAT IT READS IS OF BULK AT MOST 1048576: true; the input reads as it did. -/
def relayPlaysUptoRow : OpenClaim := { program := "ythnegmpdadkkcaa", sum := "c3136d6bbd7644bc29ea5e252281f68bb36464975e380ae70b68b51e7a4a14f7", func := "annona/annonalaw15.RelayPlays", spec := "relayPlays", inPlace := ["sync/atomic.AddInt64", "sync/atomic.LoadInt64"], unfollowed := true, recurses := true, apart := false, narrowed := true }
def RelayPlaysUptoSaid : Prop := relayPlaysUptoRow.holds Try.pinned (OpenSpec.upto relayPlaysSpec)

/-- 'annonalaw15.RelaySame', WHERE WHAT IT READS IS OF BULK AT MOST 1048576: true; the input reads as it did. -/
def relaySameUptoRow : OpenClaim := { program := "ythnegmpdadkkcaa", sum := "c3136d6bbd7644bc29ea5e252281f68bb36464975e380ae70b68b51e7a4a14f7", func := "annona/annonalaw15.RelaySame", spec := "relaySame", inPlace := ["sync/atomic.AddInt64", "sync/atomic.LoadInt64"], unfollowed := true, recurses := true, apart := false, narrowed := true }
def RelaySameUptoSaid : Prop := relaySameUptoRow.holds Try.pinned (OpenSpec.upto relaySameSpec)

/-- 'annonalaw11.LeasePlays', WHERE WHAT IT READS IS OF BULK AT MOST 1048576: true; the input reads as it did. -/
def leasePlaysUptoRow : OpenClaim := { program := "ythnegmpdadkkcaa", sum := "c3136d6bbd7644bc29ea5e252281f68bb36464975e380ae70b68b51e7a4a14f7", func := "annona/annonalaw11.LeasePlays", spec := "leasePlays", unfollowed := true, recurses := true, apart := false, narrowed := true }
def LeasePlaysUptoSaid : Prop := leasePlaysUptoRow.holds Try.pinned (OpenSpec.upto leasePlaysSpec)

end Rows
end Go.Proofs.Ythnegmpdadkkcaa

/-
  No cell of these rows narrows 'for every input' (looked for: loops, veiled, ifaces, maps, wideKeys, modest, calm, conditions, laid).
  DERIVED. THE GIVEN ROWS OF THIS SEAT. 12 by the template 'for every input the law returns true; each argument reads behind the call as it read before'; 0 by the template 'total and deterministic' (their statements: YtondopjpkedojaaTotals.lean).
  GIVEN WITH THE SEED: the statements are not yours to turn. If you find one false, say at which input.
  Laid BY PROGRAM, IN A SANDBOX (cutbox-rows.mjs): the forced cells as the released guide's own fill.sh prints them over the translation 7a0720a31765d51d… (all of the seat's roots in one cut). By AI agents, Wed Nov 11 2026. No macro, syntax, notation, axiom, sorry.
-/
import Derived.Test.YtondopjpkedojaaChecked
import GoSem.Claim
import GoSem.ClaimJoined
import GoSem.ClaimMapViews
import Derived.JoinedTies
import Derived.KernelRfl
namespace Go.Proofs.Ytondopjpkedojaa
/- THE CELL 'sum', in the pinned program and in every row, IS THE sha256 OF THE DUMP (.gsa) THAT YtondopjpkedojaaProg.lean LOADS. Nothing in Lean hashes anything: it is a label: what it is worth is what the hold of that sum in a sandbox is worth. -/
noncomputable def Try.pinned : Pinned := { name := "ytondopjpkedojaa", sum := "7a0720a31765d51d5d32df278628f08f9901c53f35227812083f72b39a3c007a", checked := Try.checked }
namespace Rows
def none {H : Type} : Left H := { results := [], args := [] }

/-- 'annonalaw08.ClockTells': WHATEVER THE INPUT: true; the input reads as it did. -/
def clockTellsSpec : ChangeSpec := { name := "clockTells", fn := fun _ => fun
  | [d1, d2, d3] => { results := [.lit (.bool true)], args := [d1, d2, d3] }
  | _ => none }
def clockTellsRow : OpenClaim := { program := "ytondopjpkedojaa", sum := "7a0720a31765d51d5d32df278628f08f9901c53f35227812083f72b39a3c007a", func := "annona/annonalaw08.ClockTells", spec := "clockTells", apart := false }
def ClockTellsSaid : Prop := clockTellsRow.holds Try.pinned (OpenSpec.ofChange clockTellsSpec)

/-- ITS FALSE NEIGHBOUR: 'it returns false'. Refute it at one input. -/
def clockTellsWrong : ChangeSpec := { name := "clockTells", fn := fun _ => fun
  | [d1, d2, d3] => { results := [.lit (.bool false)], args := [d1, d2, d3] }
  | _ => none }
def ClockTellsWrongFalsely : Prop := clockTellsRow.holds Try.pinned (OpenSpec.ofChange clockTellsWrong)

/-- 'annonalaw08.ClockSkew': WHATEVER THE INPUT: true; the input reads as it did. -/
def clockSkewSpec : ChangeSpec := { name := "clockSkew", fn := fun _ => fun
  | [d1, d2, d3] => { results := [.lit (.bool true)], args := [d1, d2, d3] }
  | _ => none }
def clockSkewRow : OpenClaim := { program := "ytondopjpkedojaa", sum := "7a0720a31765d51d5d32df278628f08f9901c53f35227812083f72b39a3c007a", func := "annona/annonalaw08.ClockSkew", spec := "clockSkew", apart := false }
def ClockSkewSaid : Prop := clockSkewRow.holds Try.pinned (OpenSpec.ofChange clockSkewSpec)

/-- ITS FALSE NEIGHBOUR: 'it returns false'. Refute it at one input. -/
def clockSkewWrong : ChangeSpec := { name := "clockSkew", fn := fun _ => fun
  | [d1, d2, d3] => { results := [.lit (.bool false)], args := [d1, d2, d3] }
  | _ => none }
def ClockSkewWrongFalsely : Prop := clockSkewRow.holds Try.pinned (OpenSpec.ofChange clockSkewWrong)

/-- 'annonalaw01.SatOrder': WHATEVER THE INPUT: true; the input reads as it did. -/
def satOrderSpec : ChangeSpec := { name := "satOrder", fn := fun _ => fun
  | [d1, d2, d3] => { results := [.lit (.bool true)], args := [d1, d2, d3] }
  | _ => none }
def satOrderRow : OpenClaim := { program := "ytondopjpkedojaa", sum := "7a0720a31765d51d5d32df278628f08f9901c53f35227812083f72b39a3c007a", func := "annona/annonalaw01.SatOrder", spec := "satOrder", apart := false }
def SatOrderSaid : Prop := satOrderRow.holds Try.pinned (OpenSpec.ofChange satOrderSpec)

/-- ITS FALSE NEIGHBOUR: 'it returns false'. Refute it at one input. -/
def satOrderWrong : ChangeSpec := { name := "satOrder", fn := fun _ => fun
  | [d1, d2, d3] => { results := [.lit (.bool false)], args := [d1, d2, d3] }
  | _ => none }
def SatOrderWrongFalsely : Prop := satOrderRow.holds Try.pinned (OpenSpec.ofChange satOrderWrong)

/-- 'annonalaw11.LeaseNever': WHATEVER THE INPUT: true; the input reads as it did. -/
def leaseNeverSpec : ChangeSpec := { name := "leaseNever", fn := fun _ => fun
  | [d1, d2] => { results := [.lit (.bool true)], args := [d1, d2] }
  | _ => none }
def leaseNeverRow : OpenClaim := { program := "ytondopjpkedojaa", sum := "7a0720a31765d51d5d32df278628f08f9901c53f35227812083f72b39a3c007a", func := "annona/annonalaw11.LeaseNever", spec := "leaseNever", apart := false }
def LeaseNeverSaid : Prop := leaseNeverRow.holds Try.pinned (OpenSpec.ofChange leaseNeverSpec)

/-- ITS FALSE NEIGHBOUR: 'it returns false'. Refute it at one input. -/
def leaseNeverWrong : ChangeSpec := { name := "leaseNever", fn := fun _ => fun
  | [d1, d2] => { results := [.lit (.bool false)], args := [d1, d2] }
  | _ => none }
def LeaseNeverWrongFalsely : Prop := leaseNeverRow.holds Try.pinned (OpenSpec.ofChange leaseNeverWrong)

/-- 'annonalaw11.LeasePlays': WHATEVER THE INPUT: true; the input reads as it did. -/
def leasePlaysSpec : ChangeSpec := { name := "leasePlays", fn := fun _ => fun
  | [d1, d2, d3] => { results := [.lit (.bool true)], args := [d1, d2, d3] }
  | _ => none }
def leasePlaysRow : OpenClaim := { program := "ytondopjpkedojaa", sum := "7a0720a31765d51d5d32df278628f08f9901c53f35227812083f72b39a3c007a", func := "annona/annonalaw11.LeasePlays", spec := "leasePlays", unfollowed := true, recurses := true, apart := false }
def LeasePlaysSaid : Prop := leasePlaysRow.holds Try.pinned (OpenSpec.ofChange leasePlaysSpec)

/-- ITS FALSE NEIGHBOUR: 'it returns false'. Refute it at one input. -/
def leasePlaysWrong : ChangeSpec := { name := "leasePlays", fn := fun _ => fun
  | [d1, d2, d3] => { results := [.lit (.bool false)], args := [d1, d2, d3] }
  | _ => none }
def LeasePlaysWrongFalsely : Prop := leasePlaysRow.holds Try.pinned (OpenSpec.ofChange leasePlaysWrong)

/-- 'annonalaw06.DiskPlays': WHATEVER THE INPUT: true; the input reads as it did. -/
def diskPlaysSpec : ChangeSpec := { name := "diskPlays", fn := fun _ => fun
  | [d1, d2] => { results := [.lit (.bool true)], args := [d1, d2] }
  | _ => none }
def diskPlaysRow : OpenClaim := { program := "ytondopjpkedojaa", sum := "7a0720a31765d51d5d32df278628f08f9901c53f35227812083f72b39a3c007a", func := "annona/annonalaw06.DiskPlays", spec := "diskPlays", apart := false }
def DiskPlaysSaid : Prop := diskPlaysRow.holds Try.pinned (OpenSpec.ofChange diskPlaysSpec)

/-- ITS FALSE NEIGHBOUR: 'it returns false'. Refute it at one input. -/
def diskPlaysWrong : ChangeSpec := { name := "diskPlays", fn := fun _ => fun
  | [d1, d2] => { results := [.lit (.bool false)], args := [d1, d2] }
  | _ => none }
def DiskPlaysWrongFalsely : Prop := diskPlaysRow.holds Try.pinned (OpenSpec.ofChange diskPlaysWrong)

/-- 'annonalaw06.DiskSafe': WHATEVER THE INPUT: true; the input reads as it did. -/
def diskSafeSpec : ChangeSpec := { name := "diskSafe", fn := fun _ => fun
  | [d1, d2] => { results := [.lit (.bool true)], args := [d1, d2] }
  | _ => none }
def diskSafeRow : OpenClaim := { program := "ytondopjpkedojaa", sum := "7a0720a31765d51d5d32df278628f08f9901c53f35227812083f72b39a3c007a", func := "annona/annonalaw06.DiskSafe", spec := "diskSafe", apart := false }
def DiskSafeSaid : Prop := diskSafeRow.holds Try.pinned (OpenSpec.ofChange diskSafeSpec)

/-- ITS FALSE NEIGHBOUR: 'it returns false'. Refute it at one input. -/
def diskSafeWrong : ChangeSpec := { name := "diskSafe", fn := fun _ => fun
  | [d1, d2] => { results := [.lit (.bool false)], args := [d1, d2] }
  | _ => none }
def DiskSafeWrongFalsely : Prop := diskSafeRow.holds Try.pinned (OpenSpec.ofChange diskSafeWrong)

/-- 'annonalaw04.CodecWrites': WHATEVER THE INPUT: true; the input reads as it did. -/
def codecWritesSpec : ChangeSpec := { name := "codecWrites", fn := fun _ => fun
  | [d1, d2] => { results := [.lit (.bool true)], args := [d1, d2] }
  | _ => none }
def codecWritesRow : OpenClaim := { program := "ytondopjpkedojaa", sum := "7a0720a31765d51d5d32df278628f08f9901c53f35227812083f72b39a3c007a", func := "annona/annonalaw04.CodecWrites", spec := "codecWrites", apart := false }
def CodecWritesSaid : Prop := codecWritesRow.holds Try.pinned (OpenSpec.ofChange codecWritesSpec)

/-- ITS FALSE NEIGHBOUR: 'it returns false'. Refute it at one input. -/
def codecWritesWrong : ChangeSpec := { name := "codecWrites", fn := fun _ => fun
  | [d1, d2] => { results := [.lit (.bool false)], args := [d1, d2] }
  | _ => none }
def CodecWritesWrongFalsely : Prop := codecWritesRow.holds Try.pinned (OpenSpec.ofChange codecWritesWrong)

/-- 'annonalaw04.CodecReads': WHATEVER THE INPUT: true; the input reads as it did. -/
def codecReadsSpec : ChangeSpec := { name := "codecReads", fn := fun _ => fun
  | [d1, d2] => { results := [.lit (.bool true)], args := [d1, d2] }
  | _ => none }
def codecReadsRow : OpenClaim := { program := "ytondopjpkedojaa", sum := "7a0720a31765d51d5d32df278628f08f9901c53f35227812083f72b39a3c007a", func := "annona/annonalaw04.CodecReads", spec := "codecReads", apart := false }
def CodecReadsSaid : Prop := codecReadsRow.holds Try.pinned (OpenSpec.ofChange codecReadsSpec)

/-- ITS FALSE NEIGHBOUR: 'it returns false'. Refute it at one input. -/
def codecReadsWrong : ChangeSpec := { name := "codecReads", fn := fun _ => fun
  | [d1, d2] => { results := [.lit (.bool false)], args := [d1, d2] }
  | _ => none }
def CodecReadsWrongFalsely : Prop := codecReadsRow.holds Try.pinned (OpenSpec.ofChange codecReadsWrong)

/-- 'annonalaw04.CodecBack': WHATEVER THE INPUT: true; the input reads as it did. -/
def codecBackSpec : ChangeSpec := { name := "codecBack", fn := fun _ => fun
  | [d1, d2] => { results := [.lit (.bool true)], args := [d1, d2] }
  | _ => none }
def codecBackRow : OpenClaim := { program := "ytondopjpkedojaa", sum := "7a0720a31765d51d5d32df278628f08f9901c53f35227812083f72b39a3c007a", func := "annona/annonalaw04.CodecBack", spec := "codecBack", apart := false }
def CodecBackSaid : Prop := codecBackRow.holds Try.pinned (OpenSpec.ofChange codecBackSpec)

/-- ITS FALSE NEIGHBOUR: 'it returns false'. Refute it at one input. -/
def codecBackWrong : ChangeSpec := { name := "codecBack", fn := fun _ => fun
  | [d1, d2] => { results := [.lit (.bool false)], args := [d1, d2] }
  | _ => none }
def CodecBackWrongFalsely : Prop := codecBackRow.holds Try.pinned (OpenSpec.ofChange codecBackWrong)

/-- 'annonalaw03.ConfNumbers': WHATEVER THE INPUT: true; the input reads as it did. -/
def confNumbersSpec : ChangeSpec := { name := "confNumbers", fn := fun _ => fun
  | [d1, d2, d3] => { results := [.lit (.bool true)], args := [d1, d2, d3] }
  | _ => none }
def confNumbersRow : OpenClaim := { program := "ytondopjpkedojaa", sum := "7a0720a31765d51d5d32df278628f08f9901c53f35227812083f72b39a3c007a", func := "annona/annonalaw03.ConfNumbers", spec := "confNumbers", unfollowed := true, recurses := true, apart := false }
def ConfNumbersSaid : Prop := confNumbersRow.holds Try.pinned (OpenSpec.ofChange confNumbersSpec)

/-- ITS FALSE NEIGHBOUR: 'it returns false'. Refute it at one input. -/
def confNumbersWrong : ChangeSpec := { name := "confNumbers", fn := fun _ => fun
  | [d1, d2, d3] => { results := [.lit (.bool false)], args := [d1, d2, d3] }
  | _ => none }
def ConfNumbersWrongFalsely : Prop := confNumbersRow.holds Try.pinned (OpenSpec.ofChange confNumbersWrong)

/-- 'annonalaw03.ConfOther': WHATEVER THE INPUT: true; the input reads as it did. -/
def confOtherSpec : ChangeSpec := { name := "confOther", fn := fun _ => fun
  | [d1, d2, d3] => { results := [.lit (.bool true)], args := [d1, d2, d3] }
  | _ => none }
def confOtherRow : OpenClaim := { program := "ytondopjpkedojaa", sum := "7a0720a31765d51d5d32df278628f08f9901c53f35227812083f72b39a3c007a", func := "annona/annonalaw03.ConfOther", spec := "confOther", unfollowed := true, recurses := true, apart := false }
def ConfOtherSaid : Prop := confOtherRow.holds Try.pinned (OpenSpec.ofChange confOtherSpec)

/-- ITS FALSE NEIGHBOUR: 'it returns false'. Refute it at one input. -/
def confOtherWrong : ChangeSpec := { name := "confOther", fn := fun _ => fun
  | [d1, d2, d3] => { results := [.lit (.bool false)], args := [d1, d2, d3] }
  | _ => none }
def ConfOtherWrongFalsely : Prop := confOtherRow.holds Try.pinned (OpenSpec.ofChange confOtherWrong)

/- THE SECOND FORM. 'bulk': how many values and letters a reading holds, each counted each time it is reached (what is shared counts as often as it is met; a slice's spare places count too). A statement '..UptoSaid' is the law's where the arguments, and the package variables that the reading takes, are together of bulk at most 1048576: NARROWER than '..Said'. Prove '..Said' where nothing that the law and all that it calls make is longer than what came in: it says more and counts as full. Else prove '..UptoSaid'. A law counts once. -/
mutual
def uptoBulk {H : Type} : DataW H → Nat
  | .lit (.string bytes) => bytes.length + 1
  | .lit _ => 1
  | .nil => 1
  | .ptr d => uptoBulk d + 1
  | .slice elems spare => uptoBulkAll elems + uptoBulkAll spare + 1
  | .agg parts => uptoBulkAll parts + 1
  | .iface _ d => uptoBulk d + 1
  | .map entries => uptoBulkEntries entries + 1
  | .held _ => 1
def uptoBulkAll {H : Type} : List (DataW H) → Nat
  | [] => 0
  | d :: r => uptoBulk d + uptoBulkAll r
def uptoBulkEntries {H : Type} : List (Lit × DataW H) → Nat
  | [] => 0
  | x :: r => uptoBulkEntry x + uptoBulkEntries r
def uptoBulkEntry {H : Type} : Lit × DataW H → Nat
  | (.string bytes, d) => bytes.length + uptoBulk d + 1
  | (_, d) => uptoBulk d + 1
 end
def uptoSmall : (H : Type) → List (DataW H) → Bool := fun _ ds => decide (uptoBulkAll ds ≤ 1048576)
def OpenSpec.upto (s : _root_.Go.ChangeSpec) : _root_.Go.OpenSpec := { _root_.Go.OpenSpec.ofChange s with cond := some uptoSmall }

/-- 'annonalaw08.ClockTells', WHERE WHAT IT READS IS OF BULK AT MOST 1048576: true; the input reads as it did. -/
def clockTellsUptoRow : OpenClaim := { program := "ytondopjpkedojaa", sum := "7a0720a31765d51d5d32df278628f08f9901c53f35227812083f72b39a3c007a", func := "annona/annonalaw08.ClockTells", spec := "clockTells", apart := false, narrowed := true }
def ClockTellsUptoSaid : Prop := clockTellsUptoRow.holds Try.pinned (OpenSpec.upto clockTellsSpec)

/-- 'annonalaw08.ClockSkew', WHERE WHAT IT READS IS OF BULK AT MOST 1048576: true; the input reads as it did. -/
def clockSkewUptoRow : OpenClaim := { program := "ytondopjpkedojaa", sum := "7a0720a31765d51d5d32df278628f08f9901c53f35227812083f72b39a3c007a", func := "annona/annonalaw08.ClockSkew", spec := "clockSkew", apart := false, narrowed := true }
def ClockSkewUptoSaid : Prop := clockSkewUptoRow.holds Try.pinned (OpenSpec.upto clockSkewSpec)

/-- 'annonalaw01.SatOrder', WHERE WHAT IT READS IS OF BULK AT MOST 1048576: true; the input reads as it did. -/
def satOrderUptoRow : OpenClaim := { program := "ytondopjpkedojaa", sum := "7a0720a31765d51d5d32df278628f08f9901c53f35227812083f72b39a3c007a", func := "annona/annonalaw01.SatOrder", spec := "satOrder", apart := false, narrowed := true }
def SatOrderUptoSaid : Prop := satOrderUptoRow.holds Try.pinned (OpenSpec.upto satOrderSpec)

/-- 'annonalaw11.LeaseNever', WHERE WHAT IT READS IS OF BULK AT MOST 1048576: true; the input reads as it did. -/
def leaseNeverUptoRow : OpenClaim := { program := "ytondopjpkedojaa", sum := "7a0720a31765d51d5d32df278628f08f9901c53f35227812083f72b39a3c007a", func := "annona/annonalaw11.LeaseNever", spec := "leaseNever", apart := false, narrowed := true }
def LeaseNeverUptoSaid : Prop := leaseNeverUptoRow.holds Try.pinned (OpenSpec.upto leaseNeverSpec)

/-- 'annonalaw11.LeasePlays', WHERE WHAT IT READS IS OF BULK AT MOST 1048576: true; the input reads as it did. -/
def leasePlaysUptoRow : OpenClaim := { program := "ytondopjpkedojaa", sum := "7a0720a31765d51d5d32df278628f08f9901c53f35227812083f72b39a3c007a", func := "annona/annonalaw11.LeasePlays", spec := "leasePlays", unfollowed := true, recurses := true, apart := false, narrowed := true }
def LeasePlaysUptoSaid : Prop := leasePlaysUptoRow.holds Try.pinned (OpenSpec.upto leasePlaysSpec)

/-- 'annonalaw06.DiskPlays', WHERE WHAT IT READS IS OF BULK AT MOST 1048576: true; the input reads as it did. -/
def diskPlaysUptoRow : OpenClaim := { program := "ytondopjpkedojaa", sum := "7a0720a31765d51d5d32df278628f08f9901c53f35227812083f72b39a3c007a", func := "annona/annonalaw06.DiskPlays", spec := "diskPlays", apart := false, narrowed := true }
def DiskPlaysUptoSaid : Prop := diskPlaysUptoRow.holds Try.pinned (OpenSpec.upto diskPlaysSpec)

/-- 'annonalaw06.DiskSafe', WHERE WHAT IT READS IS OF BULK AT MOST 1048576: true; the input reads as it did. -/
def diskSafeUptoRow : OpenClaim := { program := "ytondopjpkedojaa", sum := "7a0720a31765d51d5d32df278628f08f9901c53f35227812083f72b39a3c007a", func := "annona/annonalaw06.DiskSafe", spec := "diskSafe", apart := false, narrowed := true }
def DiskSafeUptoSaid : Prop := diskSafeUptoRow.holds Try.pinned (OpenSpec.upto diskSafeSpec)

/-- 'annonalaw04.CodecWrites', WHERE WHAT IT READS IS OF BULK AT MOST 1048576: true; the input reads as it did. -/
def codecWritesUptoRow : OpenClaim := { program := "ytondopjpkedojaa", sum := "7a0720a31765d51d5d32df278628f08f9901c53f35227812083f72b39a3c007a", func := "annona/annonalaw04.CodecWrites", spec := "codecWrites", apart := false, narrowed := true }
def CodecWritesUptoSaid : Prop := codecWritesUptoRow.holds Try.pinned (OpenSpec.upto codecWritesSpec)

/-- 'annonalaw04.CodecReads', WHERE WHAT IT READS IS OF BULK AT MOST 1048576: true; the input reads as it did. -/
def codecReadsUptoRow : OpenClaim := { program := "ytondopjpkedojaa", sum := "7a0720a31765d51d5d32df278628f08f9901c53f35227812083f72b39a3c007a", func := "annona/annonalaw04.CodecReads", spec := "codecReads", apart := false, narrowed := true }
def CodecReadsUptoSaid : Prop := codecReadsUptoRow.holds Try.pinned (OpenSpec.upto codecReadsSpec)

/-- 'annonalaw04.CodecBack', WHERE WHAT IT READS IS OF BULK AT MOST 1048576: true; the input reads as it did. -/
def codecBackUptoRow : OpenClaim := { program := "ytondopjpkedojaa", sum := "7a0720a31765d51d5d32df278628f08f9901c53f35227812083f72b39a3c007a", func := "annona/annonalaw04.CodecBack", spec := "codecBack", apart := false, narrowed := true }
def CodecBackUptoSaid : Prop := codecBackUptoRow.holds Try.pinned (OpenSpec.upto codecBackSpec)

/-- 'annonalaw03.ConfNumbers', WHERE WHAT IT READS IS OF BULK AT MOST 1048576: true; the input reads as it did. -/
def confNumbersUptoRow : OpenClaim := { program := "ytondopjpkedojaa", sum := "7a0720a31765d51d5d32df278628f08f9901c53f35227812083f72b39a3c007a", func := "annona/annonalaw03.ConfNumbers", spec := "confNumbers", unfollowed := true, recurses := true, apart := false, narrowed := true }
def ConfNumbersUptoSaid : Prop := confNumbersUptoRow.holds Try.pinned (OpenSpec.upto confNumbersSpec)

/-- 'annonalaw03.ConfOther', WHERE WHAT IT READS IS OF BULK AT MOST 1048576: true; the input reads as it did. -/
def confOtherUptoRow : OpenClaim := { program := "ytondopjpkedojaa", sum := "7a0720a31765d51d5d32df278628f08f9901c53f35227812083f72b39a3c007a", func := "annona/annonalaw03.ConfOther", spec := "confOther", unfollowed := true, recurses := true, apart := false, narrowed := true }
def ConfOtherUptoSaid : Prop := confOtherUptoRow.holds Try.pinned (OpenSpec.upto confOtherSpec)

end Rows
end Go.Proofs.Ytondopjpkedojaa

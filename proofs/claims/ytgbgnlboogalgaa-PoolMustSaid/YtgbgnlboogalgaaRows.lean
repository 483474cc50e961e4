/-
  No cell of these rows narrows 'for every input' (looked for: loops, veiled, ifaces, maps, wideKeys, modest, calm, conditions, laid).
  DERIVED. THE GIVEN ROWS OF THIS SEAT. 6 by the template 'for every input the law returns true; each argument reads behind the call as it read before'; 0 by the template 'total and deterministic' (their statements: YtgbgnlboogalgaaTotals.lean).
  GIVEN WITH THE SEED: the statements are not yours to turn. If you find one false, say at which input.
  Laid BY PROGRAM, IN A SANDBOX (cutbox-rows.mjs): the forced cells as the released guide's own fill.sh prints them over the translation b5d969d5f5cb5372… (all of the seat's roots in one cut). By AI agents, Wed Nov 11 2026. No macro, syntax, notation, axiom, sorry.
-/
import Derived.Test.YtgbgnlboogalgaaChecked
import GoSem.Claim
import GoSem.ClaimJoined
import GoSem.ClaimMapViews
import Derived.JoinedTies
import Derived.KernelRfl
namespace Go.Proofs.Ytgbgnlboogalgaa
/- THE CELL 'sum', in the pinned program and in every row, IS THE sha256 OF THE DUMP (.gsa) THAT YtgbgnlboogalgaaProg.lean LOADS. Nothing in Lean hashes anything: it is a label: what it is worth is what the hold of that sum in a sandbox is worth. -/
noncomputable def Try.pinned : Pinned := { name := "ytgbgnlboogalgaa", sum := "b5d969d5f5cb5372e37d040e676aabc5561dcd103221f9d47fd927ac721f22eb", checked := Try.checked }
namespace Rows
def none {H : Type} : Left H := { results := [], args := [] }

/-- 'baizelaw29.PoolOrder': WHATEVER THE INPUT: true; the input reads as it did. -/
def poolOrderSpec : ChangeSpec := { name := "poolOrder", fn := fun _ => fun
  | [d] => { results := [.lit (.bool true)], args := [d] }
  | _ => none }
def poolOrderRow : OpenClaim := { program := "ytgbgnlboogalgaa", sum := "b5d969d5f5cb5372e37d040e676aabc5561dcd103221f9d47fd927ac721f22eb", func := "baize/baizelaw29.PoolOrder", spec := "poolOrder", unfollowed := true, recurses := true, plainKeys := false, apart := false }
def PoolOrderSaid : Prop := poolOrderRow.holds Try.pinned (OpenSpec.ofChange poolOrderSpec)

/-- ITS FALSE NEIGHBOUR: 'it returns false'. Refute it at one input. -/
def poolOrderWrong : ChangeSpec := { name := "poolOrder", fn := fun _ => fun
  | [d] => { results := [.lit (.bool false)], args := [d] }
  | _ => none }
def PoolOrderWrongFalsely : Prop := poolOrderRow.holds Try.pinned (OpenSpec.ofChange poolOrderWrong)

/-- 'baizelaw29.PoolApart': WHATEVER THE INPUT: true; the input reads as it did. -/
def poolApartSpec : ChangeSpec := { name := "poolApart", fn := fun _ => fun
  | [d1, d2] => { results := [.lit (.bool true)], args := [d1, d2] }
  | _ => none }
def poolApartRow : OpenClaim := { program := "ytgbgnlboogalgaa", sum := "b5d969d5f5cb5372e37d040e676aabc5561dcd103221f9d47fd927ac721f22eb", func := "baize/baizelaw29.PoolApart", spec := "poolApart", unfollowed := true, recurses := true, plainKeys := false, apart := false }
def PoolApartSaid : Prop := poolApartRow.holds Try.pinned (OpenSpec.ofChange poolApartSpec)

/-- ITS FALSE NEIGHBOUR: 'it returns false'. Refute it at one input. -/
def poolApartWrong : ChangeSpec := { name := "poolApart", fn := fun _ => fun
  | [d1, d2] => { results := [.lit (.bool false)], args := [d1, d2] }
  | _ => none }
def PoolApartWrongFalsely : Prop := poolApartRow.holds Try.pinned (OpenSpec.ofChange poolApartWrong)

/-- 'baizelaw29.PoolMust': WHATEVER THE INPUT: true; the input reads as it did. -/
def poolMustSpec : ChangeSpec := { name := "poolMust", fn := fun _ => fun
  | [d1, d2, d3] => { results := [.lit (.bool true)], args := [d1, d2, d3] }
  | _ => none }
def poolMustRow : OpenClaim := { program := "ytgbgnlboogalgaa", sum := "b5d969d5f5cb5372e37d040e676aabc5561dcd103221f9d47fd927ac721f22eb", func := "baize/baizelaw29.PoolMust", spec := "poolMust", unfollowed := true, recurses := true, plainKeys := false, apart := false }
def PoolMustSaid : Prop := poolMustRow.holds Try.pinned (OpenSpec.ofChange poolMustSpec)

/-- ITS FALSE NEIGHBOUR: 'it returns false'. Refute it at one input. -/
def poolMustWrong : ChangeSpec := { name := "poolMust", fn := fun _ => fun
  | [d1, d2, d3] => { results := [.lit (.bool false)], args := [d1, d2, d3] }
  | _ => none }
def PoolMustWrongFalsely : Prop := poolMustRow.holds Try.pinned (OpenSpec.ofChange poolMustWrong)

/-- 'baizelaw29.PoolBetter': WHATEVER THE INPUT: true; the input reads as it did. -/
def poolBetterSpec : ChangeSpec := { name := "poolBetter", fn := fun _ => fun
  | [d] => { results := [.lit (.bool true)], args := [d] }
  | _ => none }
def poolBetterRow : OpenClaim := { program := "ytgbgnlboogalgaa", sum := "b5d969d5f5cb5372e37d040e676aabc5561dcd103221f9d47fd927ac721f22eb", func := "baize/baizelaw29.PoolBetter", spec := "poolBetter", unfollowed := true, recurses := true, plainKeys := false, apart := false }
def PoolBetterSaid : Prop := poolBetterRow.holds Try.pinned (OpenSpec.ofChange poolBetterSpec)

/-- ITS FALSE NEIGHBOUR: 'it returns false'. Refute it at one input. -/
def poolBetterWrong : ChangeSpec := { name := "poolBetter", fn := fun _ => fun
  | [d] => { results := [.lit (.bool false)], args := [d] }
  | _ => none }
def PoolBetterWrongFalsely : Prop := poolBetterRow.holds Try.pinned (OpenSpec.ofChange poolBetterWrong)

/-- 'baizelaw29.PoolDone': WHATEVER THE INPUT: true; the input reads as it did. -/
def poolDoneSpec : ChangeSpec := { name := "poolDone", fn := fun _ => fun
  | [d1, d2] => { results := [.lit (.bool true)], args := [d1, d2] }
  | _ => none }
def poolDoneRow : OpenClaim := { program := "ytgbgnlboogalgaa", sum := "b5d969d5f5cb5372e37d040e676aabc5561dcd103221f9d47fd927ac721f22eb", func := "baize/baizelaw29.PoolDone", spec := "poolDone", unfollowed := true, recurses := true, plainKeys := false, apart := false }
def PoolDoneSaid : Prop := poolDoneRow.holds Try.pinned (OpenSpec.ofChange poolDoneSpec)

/-- ITS FALSE NEIGHBOUR: 'it returns false'. Refute it at one input. -/
def poolDoneWrong : ChangeSpec := { name := "poolDone", fn := fun _ => fun
  | [d1, d2] => { results := [.lit (.bool false)], args := [d1, d2] }
  | _ => none }
def PoolDoneWrongFalsely : Prop := poolDoneRow.holds Try.pinned (OpenSpec.ofChange poolDoneWrong)

/-- 'baizelaw29.PoolNil': WHATEVER THE INPUT: true; the input reads as it did. -/
def poolNilSpec : ChangeSpec := { name := "poolNil", fn := fun _ => fun
  | [d] => { results := [.lit (.bool true)], args := [d] }
  | _ => none }
def poolNilRow : OpenClaim := { program := "ytgbgnlboogalgaa", sum := "b5d969d5f5cb5372e37d040e676aabc5561dcd103221f9d47fd927ac721f22eb", func := "baize/baizelaw29.PoolNil", spec := "poolNil", unfollowed := true, recurses := true, plainKeys := false, apart := false }
def PoolNilSaid : Prop := poolNilRow.holds Try.pinned (OpenSpec.ofChange poolNilSpec)

/-- ITS FALSE NEIGHBOUR: 'it returns false'. Refute it at one input. -/
def poolNilWrong : ChangeSpec := { name := "poolNil", fn := fun _ => fun
  | [d] => { results := [.lit (.bool false)], args := [d] }
  | _ => none }
def PoolNilWrongFalsely : Prop := poolNilRow.holds Try.pinned (OpenSpec.ofChange poolNilWrong)

/- THE SECOND FORM. 'bulk': how many values and letters a reading holds, each counted each time it is reached (what is shared counts as often as it is met; a slice's spare places count too). A statement '..UptoSaid' is the law's where the arguments, and the package variables that the reading takes, are together of bulk at most 1048576: NARROWER than '..Said'. Prove '..Said' where nothing that the law and all that it calls make is longer than what came in: it says more and counts as full. Else prove '..UptoSaid'. A law counts once. -/
mutual
def uptoBulk {H : Type} : DataW H → Nat
  | .lit (.string bytes) => bytes.length + 1
  | .lit _ => 1
  | .nil => 1
  | .ptr d => uptoBulk d + 1
  | .slice elems spare => uptoBulkAll elems + uptoBulkAll spare + 1
  | .agg parts => uptoBulkAll parts + 1
  | .iface _ d => uptoBulk d + 1
  | .map entries => uptoBulkEntries entries + 1
  | .held _ => 1
def uptoBulkAll {H : Type} : List (DataW H) → Nat
  | [] => 0
  | d :: r => uptoBulk d + uptoBulkAll r
def uptoBulkEntries {H : Type} : List (Lit × DataW H) → Nat
  | [] => 0
  | x :: r => uptoBulkEntry x + uptoBulkEntries r
def uptoBulkEntry {H : Type} : Lit × DataW H → Nat
  | (.string bytes, d) => bytes.length + uptoBulk d + 1
  | (_, d) => uptoBulk d + 1
 end
def uptoSmall : (H : Type) → List (DataW H) → Bool := fun _ ds => decide (uptoBulkAll ds ≤ 1048576)
def OpenSpec.upto (s : _root_.Go.ChangeSpec) : _root_.Go.OpenSpec := { _root_.Go.OpenSpec.ofChange s with cond := some uptoSmall }

/-- 'baizelaw29.PoolOrder', WHERE WHAT IT READS IS OF BULK AT MOST 1048576: true; the input reads as it did. -/
def poolOrderUptoRow : OpenClaim := { program := "ytgbgnlboogalgaa", sum := "b5d969d5f5cb5372e37d040e676aabc5561dcd103221f9d47fd927ac721f22eb", func := "baize/baizelaw29.PoolOrder", spec := "poolOrder", unfollowed := true, recurses := true, plainKeys := false, apart := false, narrowed := true }
def PoolOrderUptoSaid : Prop := poolOrderUptoRow.holds Try.pinned (OpenSpec.upto poolOrderSpec)

/-- 'baizelaw29.PoolApart', WHERE WHAT IT READS IS OF BULK AT MOST 1048576: true; the input reads as it did. -/
def poolApartUptoRow : OpenClaim := { program := "ytgbgnlboogalgaa", sum := "b5d969d5f5cb5372e37d040e676aabc5561dcd103221f9d47fd927ac721f22eb", func := "baize/baizelaw29.PoolApart", spec := "poolApart", unfollowed := true, recurses := true, plainKeys := false, apart := false, narrowed := true }
def PoolApartUptoSaid : Prop := poolApartUptoRow.holds Try.pinned (OpenSpec.upto poolApartSpec)

/-- 'baizelaw29.PoolMust', WHERE WHAT IT READS IS OF BULK AT MOST 1048576: true; the input reads as it did. -/
def poolMustUptoRow : OpenClaim := { program := "ytgbgnlboogalgaa", sum := "b5d969d5f5cb5372e37d040e676aabc5561dcd103221f9d47fd927ac721f22eb", func := "baize/baizelaw29.PoolMust", spec := "poolMust", unfollowed := true, recurses := true, plainKeys := false, apart := false, narrowed := true }
def PoolMustUptoSaid : Prop := poolMustUptoRow.holds Try.pinned (OpenSpec.upto poolMustSpec)

/-- 'baizelaw29.PoolBetter', WHERE WHAT IT READS IS OF BULK AT MOST 1048576: true; the input reads as it did. -/
def poolBetterUptoRow : OpenClaim := { program := "ytgbgnlboogalgaa", sum := "b5d969d5f5cb5372e37d040e676aabc5561dcd103221f9d47fd927ac721f22eb", func := "baize/baizelaw29.PoolBetter", spec := "poolBetter", unfollowed := true, recurses := true, plainKeys := false, apart := false, narrowed := true }
def PoolBetterUptoSaid : Prop := poolBetterUptoRow.holds Try.pinned (OpenSpec.upto poolBetterSpec)

/-- 'baizelaw29.PoolDone', WHERE WHAT IT READS IS OF BULK AT MOST 1048576: true; the input reads as it did. -/
def poolDoneUptoRow : OpenClaim := { program := "ytgbgnlboogalgaa", sum := "b5d969d5f5cb5372e37d040e676aabc5561dcd103221f9d47fd927ac721f22eb", func := "baize/baizelaw29.PoolDone", spec := "poolDone", unfollowed := true, recurses := true, plainKeys := false, apart := false, narrowed := true }
def PoolDoneUptoSaid : Prop := poolDoneUptoRow.holds Try.pinned (OpenSpec.upto poolDoneSpec)

/-- 'baizelaw29.PoolNil', WHERE WHAT IT READS IS OF BULK AT MOST 1048576: true; the input reads as it did. -/
def poolNilUptoRow : OpenClaim := { program := "ytgbgnlboogalgaa", sum := "b5d969d5f5cb5372e37d040e676aabc5561dcd103221f9d47fd927ac721f22eb", func := "baize/baizelaw29.PoolNil", spec := "poolNil", unfollowed := true, recurses := true, plainKeys := false, apart := false, narrowed := true }
def PoolNilUptoSaid : Prop := poolNilUptoRow.holds Try.pinned (OpenSpec.upto poolNilSpec)

end Rows
end Go.Proofs.Ytgbgnlboogalgaa

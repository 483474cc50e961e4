/-
  No cell of these rows narrows 'for every input' (looked for: loops, veiled, ifaces, maps, wideKeys, modest, calm, conditions, laid).
  DERIVED. THE GIVEN ROWS OF THIS SEAT. 8 by the template 'for every input the law returns true; each argument reads behind the call as it read before'; 0 by the template 'total and deterministic' (their statements: YtkkfppfpbobghaaTotals.lean).
  GIVEN WITH THE SEED: the statements are not yours to turn. If you find one false, say at which input.
  Laid BY PROGRAM, IN A SANDBOX (cutbox-rows.mjs): the forced cells as the released guide's own fill.sh prints them over the translation 93fbb68415a78f08… (all of the seat's roots in one cut). By AI agents, Wed Nov 11 2026. No macro, syntax, notation, axiom, sorry.
-/
import Derived.Test.YtkkfppfpbobghaaChecked
import GoSem.Claim
import GoSem.ClaimJoined
import GoSem.ClaimMapViews
import Derived.JoinedTies
import Derived.KernelRfl
namespace Go.Proofs.Ytkkfppfpbobghaa
/- THE CELL 'sum', in the pinned program and in every row, IS THE sha256 OF THE DUMP (.gsa) THAT YtkkfppfpbobghaaProg.lean LOADS. Nothing in Lean hashes anything: it is a label: what it is worth is what the hold of that sum in a sandbox is worth. -/
noncomputable def Try.pinned : Pinned := { name := "ytkkfppfpbobghaa", sum := "93fbb68415a78f08edab4c012e8aeabcd7951221040aa3935c6da9763de034fa", checked := Try.checked }
namespace Rows
def none {H : Type} : Left H := { results := [], args := [] }

/-- 'baizelaw24.AccountActs': WHATEVER THE INPUT: true; the input reads as it did. -/
def accountActsSpec : ChangeSpec := { name := "accountActs", fn := fun _ => fun
  | [d1, d2] => { results := [.lit (.bool true)], args := [d1, d2] }
  | _ => none }
def accountActsRow : OpenClaim := { program := "ytkkfppfpbobghaa", sum := "93fbb68415a78f08edab4c012e8aeabcd7951221040aa3935c6da9763de034fa", func := "baize/baizelaw24.AccountActs", spec := "accountActs", inPlace := ["internal/bytealg.Compare"], unfollowed := true, recurses := true, plainKeys := false, apart := false }
def AccountActsSaid : Prop := accountActsRow.holds Try.pinned (OpenSpec.ofChange accountActsSpec)

/-- ITS FALSE NEIGHBOUR: 'it returns false'. Refute it at one input. -/
def accountActsWrong : ChangeSpec := { name := "accountActs", fn := fun _ => fun
  | [d1, d2] => { results := [.lit (.bool false)], args := [d1, d2] }
  | _ => none }
def AccountActsWrongFalsely : Prop := accountActsRow.holds Try.pinned (OpenSpec.ofChange accountActsWrong)

/-- 'baizelaw24.AccountTotal': WHATEVER THE INPUT: true; the input reads as it did. -/
def accountTotalSpec : ChangeSpec := { name := "accountTotal", fn := fun _ => fun
  | [d1, d2] => { results := [.lit (.bool true)], args := [d1, d2] }
  | _ => none }
def accountTotalRow : OpenClaim := { program := "ytkkfppfpbobghaa", sum := "93fbb68415a78f08edab4c012e8aeabcd7951221040aa3935c6da9763de034fa", func := "baize/baizelaw24.AccountTotal", spec := "accountTotal", inPlace := ["internal/bytealg.Compare"], unfollowed := true, recurses := true, plainKeys := false, apart := false }
def AccountTotalSaid : Prop := accountTotalRow.holds Try.pinned (OpenSpec.ofChange accountTotalSpec)

/-- ITS FALSE NEIGHBOUR: 'it returns false'. Refute it at one input. -/
def accountTotalWrong : ChangeSpec := { name := "accountTotal", fn := fun _ => fun
  | [d1, d2] => { results := [.lit (.bool false)], args := [d1, d2] }
  | _ => none }
def AccountTotalWrongFalsely : Prop := accountTotalRow.holds Try.pinned (OpenSpec.ofChange accountTotalWrong)

/-- 'baizelaw24.AccountOnce': WHATEVER THE INPUT: true; the input reads as it did. -/
def accountOnceSpec : ChangeSpec := { name := "accountOnce", fn := fun _ => fun
  | [d1, d2, d3] => { results := [.lit (.bool true)], args := [d1, d2, d3] }
  | _ => none }
def accountOnceRow : OpenClaim := { program := "ytkkfppfpbobghaa", sum := "93fbb68415a78f08edab4c012e8aeabcd7951221040aa3935c6da9763de034fa", func := "baize/baizelaw24.AccountOnce", spec := "accountOnce", inPlace := ["internal/bytealg.Compare"], unfollowed := true, recurses := true, plainKeys := false, apart := false }
def AccountOnceSaid : Prop := accountOnceRow.holds Try.pinned (OpenSpec.ofChange accountOnceSpec)

/-- ITS FALSE NEIGHBOUR: 'it returns false'. Refute it at one input. -/
def accountOnceWrong : ChangeSpec := { name := "accountOnce", fn := fun _ => fun
  | [d1, d2, d3] => { results := [.lit (.bool false)], args := [d1, d2, d3] }
  | _ => none }
def AccountOnceWrongFalsely : Prop := accountOnceRow.holds Try.pinned (OpenSpec.ofChange accountOnceWrong)

/-- 'baizelaw24.AccountParts': WHATEVER THE INPUT: true; the input reads as it did. -/
def accountPartsSpec : ChangeSpec := { name := "accountParts", fn := fun _ => fun
  | [d1, d2, d3] => { results := [.lit (.bool true)], args := [d1, d2, d3] }
  | _ => none }
def accountPartsRow : OpenClaim := { program := "ytkkfppfpbobghaa", sum := "93fbb68415a78f08edab4c012e8aeabcd7951221040aa3935c6da9763de034fa", func := "baize/baizelaw24.AccountParts", spec := "accountParts", inPlace := ["internal/bytealg.Compare"], unfollowed := true, recurses := true, plainKeys := false, apart := false }
def AccountPartsSaid : Prop := accountPartsRow.holds Try.pinned (OpenSpec.ofChange accountPartsSpec)

/-- ITS FALSE NEIGHBOUR: 'it returns false'. Refute it at one input. -/
def accountPartsWrong : ChangeSpec := { name := "accountParts", fn := fun _ => fun
  | [d1, d2, d3] => { results := [.lit (.bool false)], args := [d1, d2, d3] }
  | _ => none }
def AccountPartsWrongFalsely : Prop := accountPartsRow.holds Try.pinned (OpenSpec.ofChange accountPartsWrong)

/-- 'baizelaw24.AccountNews': WHATEVER THE INPUT: true; the input reads as it did. -/
def accountNewsSpec : ChangeSpec := { name := "accountNews", fn := fun _ => fun
  | [d1, d2] => { results := [.lit (.bool true)], args := [d1, d2] }
  | _ => none }
def accountNewsRow : OpenClaim := { program := "ytkkfppfpbobghaa", sum := "93fbb68415a78f08edab4c012e8aeabcd7951221040aa3935c6da9763de034fa", func := "baize/baizelaw24.AccountNews", spec := "accountNews", inPlace := ["internal/bytealg.Compare"], unfollowed := true, recurses := true, plainKeys := false, apart := false }
def AccountNewsSaid : Prop := accountNewsRow.holds Try.pinned (OpenSpec.ofChange accountNewsSpec)

/-- ITS FALSE NEIGHBOUR: 'it returns false'. Refute it at one input. -/
def accountNewsWrong : ChangeSpec := { name := "accountNews", fn := fun _ => fun
  | [d1, d2] => { results := [.lit (.bool false)], args := [d1, d2] }
  | _ => none }
def AccountNewsWrongFalsely : Prop := accountNewsRow.holds Try.pinned (OpenSpec.ofChange accountNewsWrong)

/-- 'baizelaw24.AccountBack': WHATEVER THE INPUT: true; the input reads as it did. -/
def accountBackSpec : ChangeSpec := { name := "accountBack", fn := fun _ => fun
  | [d1, d2] => { results := [.lit (.bool true)], args := [d1, d2] }
  | _ => none }
def accountBackRow : OpenClaim := { program := "ytkkfppfpbobghaa", sum := "93fbb68415a78f08edab4c012e8aeabcd7951221040aa3935c6da9763de034fa", func := "baize/baizelaw24.AccountBack", spec := "accountBack", inPlace := ["internal/bytealg.Compare"], unfollowed := true, recurses := true, plainKeys := false, apart := false }
def AccountBackSaid : Prop := accountBackRow.holds Try.pinned (OpenSpec.ofChange accountBackSpec)

/-- ITS FALSE NEIGHBOUR: 'it returns false'. Refute it at one input. -/
def accountBackWrong : ChangeSpec := { name := "accountBack", fn := fun _ => fun
  | [d1, d2] => { results := [.lit (.bool false)], args := [d1, d2] }
  | _ => none }
def AccountBackWrongFalsely : Prop := accountBackRow.holds Try.pinned (OpenSpec.ofChange accountBackWrong)

/-- 'baizelaw24.AccountClones': WHATEVER THE INPUT: true; the input reads as it did. -/
def accountClonesSpec : ChangeSpec := { name := "accountClones", fn := fun _ => fun
  | [d1, d2, d3] => { results := [.lit (.bool true)], args := [d1, d2, d3] }
  | _ => none }
def accountClonesRow : OpenClaim := { program := "ytkkfppfpbobghaa", sum := "93fbb68415a78f08edab4c012e8aeabcd7951221040aa3935c6da9763de034fa", func := "baize/baizelaw24.AccountClones", spec := "accountClones", inPlace := ["internal/bytealg.Compare"], unfollowed := true, recurses := true, plainKeys := false, apart := false }
def AccountClonesSaid : Prop := accountClonesRow.holds Try.pinned (OpenSpec.ofChange accountClonesSpec)

/-- ITS FALSE NEIGHBOUR: 'it returns false'. Refute it at one input. -/
def accountClonesWrong : ChangeSpec := { name := "accountClones", fn := fun _ => fun
  | [d1, d2, d3] => { results := [.lit (.bool false)], args := [d1, d2, d3] }
  | _ => none }
def AccountClonesWrongFalsely : Prop := accountClonesRow.holds Try.pinned (OpenSpec.ofChange accountClonesWrong)

/-- 'baizelaw24.AccountOwn': WHATEVER THE INPUT: true; the input reads as it did. -/
def accountOwnSpec : ChangeSpec := { name := "accountOwn", fn := fun _ => fun
  | [d1, d2] => { results := [.lit (.bool true)], args := [d1, d2] }
  | _ => none }
def accountOwnRow : OpenClaim := { program := "ytkkfppfpbobghaa", sum := "93fbb68415a78f08edab4c012e8aeabcd7951221040aa3935c6da9763de034fa", func := "baize/baizelaw24.AccountOwn", spec := "accountOwn", inPlace := ["internal/bytealg.Compare"], unfollowed := true, recurses := true, plainKeys := false, apart := false }
def AccountOwnSaid : Prop := accountOwnRow.holds Try.pinned (OpenSpec.ofChange accountOwnSpec)

/-- ITS FALSE NEIGHBOUR: 'it returns false'. Refute it at one input. -/
def accountOwnWrong : ChangeSpec := { name := "accountOwn", fn := fun _ => fun
  | [d1, d2] => { results := [.lit (.bool false)], args := [d1, d2] }
  | _ => none }
def AccountOwnWrongFalsely : Prop := accountOwnRow.holds Try.pinned (OpenSpec.ofChange accountOwnWrong)

/- THE SECOND FORM. 'bulk': how many values and letters a reading holds, each counted each time it is reached (what is shared counts as often as it is met; a slice's spare places count too). A statement '..UptoSaid' is the law's where the arguments, and the package variables that the reading takes, are together of bulk at most 1048576: NARROWER than '..Said'. Prove '..Said' where nothing that the law and all that it calls make is longer than what came in: it says more and counts as full. Else prove '..UptoSaid'. A law counts once. -/
mutual
def uptoBulk {H : Type} : DataW H → Nat
  | .lit (.string bytes) => bytes.length + 1
  | .lit _ => 1
  | .nil => 1
  | .ptr d => uptoBulk d + 1
  | .slice elems spare => uptoBulkAll elems + uptoBulkAll spare + 1
  | .agg parts => uptoBulkAll parts + 1
  | .iface _ d => uptoBulk d + 1
  | .map entries => uptoBulkEntries entries + 1
  | .held _ => 1
def uptoBulkAll {H : Type} : List (DataW H) → Nat
  | [] => 0
  | d :: r => uptoBulk d + uptoBulkAll r
def uptoBulkEntries {H : Type} : List (Lit × DataW H) → Nat
  | [] => 0
  | x :: r => uptoBulkEntry x + uptoBulkEntries r
def uptoBulkEntry {H : Type} : Lit × DataW H → Nat
  | (.string bytes, d) => bytes.length + uptoBulk d + 1
  | (_, d) => uptoBulk d + 1
 end
def uptoSmall : (H : Type) → List (DataW H) → Bool := fun _ ds => decide (uptoBulkAll ds ≤ 1048576)
def OpenSpec.upto (s : _root_.Go.ChangeSpec) : _root_.Go.OpenSpec := { _root_.Go.OpenSpec.ofChange s with cond := some uptoSmall }

/-- 'baizelaw24.AccountActs', WHERE WHAT IT READS IS OF BULK AT MOST 1048576: true; the input reads as it did. -/
def accountActsUptoRow : OpenClaim := { program := "ytkkfppfpbobghaa", sum := "93fbb68415a78f08edab4c012e8aeabcd7951221040aa3935c6da9763de034fa", func := "baize/baizelaw24.AccountActs", spec := "accountActs", inPlace := ["internal/bytealg.Compare"], unfollowed := true, recurses := true, plainKeys := false, apart := false, narrowed := true }
def AccountActsUptoSaid : Prop := accountActsUptoRow.holds Try.pinned (OpenSpec.upto accountActsSpec)

/-- 'baizelaw24.AccountTotal', WHERE WHAT IT READS IS OF BULK AT MOST 1048576: true; the input reads as it did. -/
def accountTotalUptoRow : OpenClaim := { program := "ytkkfppfpbobghaa", sum := "93fbb68415a78f08edab4c012e8aeabcd7951221040aa3935c6da9763de034fa", func := "baize/baizelaw24.AccountTotal", spec := "accountTotal", inPlace := ["internal/bytealg.Compare"], unfollowed := true, recurses := true, plainKeys := false, apart := false, narrowed := true }
def AccountTotalUptoSaid : Prop := accountTotalUptoRow.holds Try.pinned (OpenSpec.upto accountTotalSpec)

/-- 'baizelaw24.AccountOnce', WHERE WHAT IT READS IS OF BULK AT MOST 1048576: true; the input reads as it did. -/
def accountOnceUptoRow : OpenClaim := { program := "ytkkfppfpbobghaa", sum := "93fbb68415a78f08edab4c012e8aeabcd7951221040aa3935c6da9763de034fa", func := "baize/baizelaw24.AccountOnce", spec := "accountOnce", inPlace := ["internal/bytealg.Compare"], unfollowed := true, recurses := true, plainKeys := false, apart := false, narrowed := true }
def AccountOnceUptoSaid : Prop := accountOnceUptoRow.holds Try.pinned (OpenSpec.upto accountOnceSpec)

/-- 'baizelaw24.AccountParts', WHERE WHAT IT READS IS OF BULK AT MOST 1048576: true; the input reads as it did. -/
def accountPartsUptoRow : OpenClaim := { program := "ytkkfppfpbobghaa", sum := "93fbb68415a78f08edab4c012e8aeabcd7951221040aa3935c6da9763de034fa", func := "baize/baizelaw24.AccountParts", spec := "accountParts", inPlace := ["internal/bytealg.Compare"], unfollowed := true, recurses := true, plainKeys := false, apart := false, narrowed := true }
def AccountPartsUptoSaid : Prop := accountPartsUptoRow.holds Try.pinned (OpenSpec.upto accountPartsSpec)

/-- 'baizelaw24.AccountNews', WHERE WHAT IT READS IS OF BULK AT MOST 1048576: true; the input reads as it did. -/
def accountNewsUptoRow : OpenClaim := { program := "ytkkfppfpbobghaa", sum := "93fbb68415a78f08edab4c012e8aeabcd7951221040aa3935c6da9763de034fa", func := "baize/baizelaw24.AccountNews", spec := "accountNews", inPlace := ["internal/bytealg.Compare"], unfollowed := true, recurses := true, plainKeys := false, apart := false, narrowed := true }
def AccountNewsUptoSaid : Prop := accountNewsUptoRow.holds Try.pinned (OpenSpec.upto accountNewsSpec)

/-- 'baizelaw24.AccountBack', WHERE WHAT IT READS IS OF BULK AT MOST 1048576: true; the input reads as it did. -/
def accountBackUptoRow : OpenClaim := { program := "ytkkfppfpbobghaa", sum := "93fbb68415a78f08edab4c012e8aeabcd7951221040aa3935c6da9763de034fa", func := "baize/baizelaw24.AccountBack", spec := "accountBack", inPlace := ["internal/bytealg.Compare"], unfollowed := true, recurses := true, plainKeys := false, apart := false, narrowed := true }
def AccountBackUptoSaid : Prop := accountBackUptoRow.holds Try.pinned (OpenSpec.upto accountBackSpec)

/-- 'baizelaw24.AccountClones', WHERE WHAT IT READS IS OF BULK AT MOST 1048576: true; the input reads as it did. -/
def accountClonesUptoRow : OpenClaim := { program := "ytkkfppfpbobghaa", sum := "93fbb68415a78f08edab4c012e8aeabcd7951221040aa3935c6da9763de034fa", func := "baize/baizelaw24.AccountClones", spec := "accountClones", inPlace := ["internal/bytealg.Compare"], unfollowed := true, recurses := true, plainKeys := false, apart := false, narrowed := true }
def AccountClonesUptoSaid : Prop := accountClonesUptoRow.holds Try.pinned (OpenSpec.upto accountClonesSpec)

/-- 'baizelaw24.AccountOwn', WHERE WHAT IT READS IS OF BULK AT MOST 1048576: true; the input reads as it did. -/
def accountOwnUptoRow : OpenClaim := { program := "ytkkfppfpbobghaa", sum := "93fbb68415a78f08edab4c012e8aeabcd7951221040aa3935c6da9763de034fa", func := "baize/baizelaw24.AccountOwn", spec := "accountOwn", inPlace := ["internal/bytealg.Compare"], unfollowed := true, recurses := true, plainKeys := false, apart := false, narrowed := true }
def AccountOwnUptoSaid : Prop := accountOwnUptoRow.holds Try.pinned (OpenSpec.upto accountOwnSpec)

end Rows
end Go.Proofs.Ytkkfppfpbobghaa

/-
  No cell of these rows narrows 'for every input' (looked for: loops, veiled, ifaces, maps, wideKeys, modest, calm, conditions, laid).
  DERIVED. THE GIVEN ROWS OF THIS SEAT. 8 by the template 'for every input the law returns true; each argument reads behind the call as it read before'; 0 by the template 'total and deterministic' (their statements: YtajllbdeoopimaaTotals.lean).
  GIVEN WITH THE SEED: the statements are not yours to turn. If you find one false, say at which input.
  Laid BY PROGRAM, IN A SANDBOX (cutbox-rows.mjs): the forced cells as the released guide's own fill.sh prints them over the translation a472f35ed9c459f4… (all of the seat's roots in one cut). By AI agents, Wed Nov 11 2026. No macro, syntax, notation, axiom, sorry.
-/
import Derived.Test.YtajllbdeoopimaaChecked
import GoSem.Claim
import GoSem.ClaimJoined
import GoSem.ClaimMapViews
import Derived.JoinedTies
import Derived.KernelRfl
namespace Go.Proofs.Ytajllbdeoopimaa
/- THE CELL 'sum', in the pinned program and in every row, IS THE sha256 OF THE DUMP (.gsa) THAT YtajllbdeoopimaaProg.lean LOADS. Nothing in Lean hashes anything: it is a label: what it is worth is what the hold of that sum in a sandbox is worth. -/
noncomputable def Try.pinned : Pinned := { name := "ytajllbdeoopimaa", sum := "a472f35ed9c459f4226f24e6233522316cae25acc0880cb389f63c978f8963d7", checked := Try.checked }
namespace Rows
def none {H : Type} : Left H := { results := [], args := [] }

/-- 'baizelaw49.HubHops': WHATEVER THE INPUT: true; the input reads as it did. -/
def hubHopsSpec : ChangeSpec := { name := "hubHops", fn := fun _ => fun
  | [d1, d2, d3, d4] => { results := [.lit (.bool true)], args := [d1, d2, d3, d4] }
  | _ => none }
def hubHopsRow : OpenClaim := { program := "ytajllbdeoopimaa", sum := "a472f35ed9c459f4226f24e6233522316cae25acc0880cb389f63c978f8963d7", func := "baize/baizelaw49.HubHops", spec := "hubHops", inPlace := ["internal/bytealg.Compare"], unfollowed := true, recurses := true, plainKeys := false, apart := false }
def HubHopsSaid : Prop := hubHopsRow.holds Try.pinned (OpenSpec.ofChange hubHopsSpec)

/-- ITS FALSE NEIGHBOUR: 'it returns false'. Refute it at one input. -/
def hubHopsWrong : ChangeSpec := { name := "hubHops", fn := fun _ => fun
  | [d1, d2, d3, d4] => { results := [.lit (.bool false)], args := [d1, d2, d3, d4] }
  | _ => none }
def HubHopsWrongFalsely : Prop := hubHopsRow.holds Try.pinned (OpenSpec.ofChange hubHopsWrong)

/-- 'baizelaw49.HubWindow': WHATEVER THE INPUT: true; the input reads as it did. -/
def hubWindowSpec : ChangeSpec := { name := "hubWindow", fn := fun _ => fun
  | [d] => { results := [.lit (.bool true)], args := [d] }
  | _ => none }
def hubWindowRow : OpenClaim := { program := "ytajllbdeoopimaa", sum := "a472f35ed9c459f4226f24e6233522316cae25acc0880cb389f63c978f8963d7", func := "baize/baizelaw49.HubWindow", spec := "hubWindow", inPlace := ["internal/bytealg.Compare"], unfollowed := true, recurses := true, plainKeys := false, apart := false }
def HubWindowSaid : Prop := hubWindowRow.holds Try.pinned (OpenSpec.ofChange hubWindowSpec)

/-- ITS FALSE NEIGHBOUR: 'it returns false'. Refute it at one input. -/
def hubWindowWrong : ChangeSpec := { name := "hubWindow", fn := fun _ => fun
  | [d] => { results := [.lit (.bool false)], args := [d] }
  | _ => none }
def HubWindowWrongFalsely : Prop := hubWindowRow.holds Try.pinned (OpenSpec.ofChange hubWindowWrong)

/-- 'baizelaw49.HubTotals': WHATEVER THE INPUT: true; the input reads as it did. -/
def hubTotalsSpec : ChangeSpec := { name := "hubTotals", fn := fun _ => fun
  | [d] => { results := [.lit (.bool true)], args := [d] }
  | _ => none }
def hubTotalsRow : OpenClaim := { program := "ytajllbdeoopimaa", sum := "a472f35ed9c459f4226f24e6233522316cae25acc0880cb389f63c978f8963d7", func := "baize/baizelaw49.HubTotals", spec := "hubTotals", inPlace := ["internal/bytealg.Compare"], unfollowed := true, recurses := true, plainKeys := false, apart := false }
def HubTotalsSaid : Prop := hubTotalsRow.holds Try.pinned (OpenSpec.ofChange hubTotalsSpec)

/-- ITS FALSE NEIGHBOUR: 'it returns false'. Refute it at one input. -/
def hubTotalsWrong : ChangeSpec := { name := "hubTotals", fn := fun _ => fun
  | [d] => { results := [.lit (.bool false)], args := [d] }
  | _ => none }
def HubTotalsWrongFalsely : Prop := hubTotalsRow.holds Try.pinned (OpenSpec.ofChange hubTotalsWrong)

/-- 'baizelaw49.HubWorth': WHATEVER THE INPUT: true; the input reads as it did. -/
def hubWorthSpec : ChangeSpec := { name := "hubWorth", fn := fun _ => fun
  | [d] => { results := [.lit (.bool true)], args := [d] }
  | _ => none }
def hubWorthRow : OpenClaim := { program := "ytajllbdeoopimaa", sum := "a472f35ed9c459f4226f24e6233522316cae25acc0880cb389f63c978f8963d7", func := "baize/baizelaw49.HubWorth", spec := "hubWorth", inPlace := ["internal/bytealg.Compare"], unfollowed := true, recurses := true, plainKeys := false, apart := false }
def HubWorthSaid : Prop := hubWorthRow.holds Try.pinned (OpenSpec.ofChange hubWorthSpec)

/-- ITS FALSE NEIGHBOUR: 'it returns false'. Refute it at one input. -/
def hubWorthWrong : ChangeSpec := { name := "hubWorth", fn := fun _ => fun
  | [d] => { results := [.lit (.bool false)], args := [d] }
  | _ => none }
def HubWorthWrongFalsely : Prop := hubWorthRow.holds Try.pinned (OpenSpec.ofChange hubWorthWrong)

/-- 'baizelaw49.HubExpires': WHATEVER THE INPUT: true; the input reads as it did. -/
def hubExpiresSpec : ChangeSpec := { name := "hubExpires", fn := fun _ => fun
  | [d] => { results := [.lit (.bool true)], args := [d] }
  | _ => none }
def hubExpiresRow : OpenClaim := { program := "ytajllbdeoopimaa", sum := "a472f35ed9c459f4226f24e6233522316cae25acc0880cb389f63c978f8963d7", func := "baize/baizelaw49.HubExpires", spec := "hubExpires", inPlace := ["internal/bytealg.Compare"], unfollowed := true, recurses := true, plainKeys := false, apart := false }
def HubExpiresSaid : Prop := hubExpiresRow.holds Try.pinned (OpenSpec.ofChange hubExpiresSpec)

/-- ITS FALSE NEIGHBOUR: 'it returns false'. Refute it at one input. -/
def hubExpiresWrong : ChangeSpec := { name := "hubExpires", fn := fun _ => fun
  | [d] => { results := [.lit (.bool false)], args := [d] }
  | _ => none }
def HubExpiresWrongFalsely : Prop := hubExpiresRow.holds Try.pinned (OpenSpec.ofChange hubExpiresWrong)

/-- 'baizelaw49.HubWrong': WHATEVER THE INPUT: true; the input reads as it did. -/
def hubWrongSpec : ChangeSpec := { name := "hubWrong", fn := fun _ => fun
  | [d1, d2] => { results := [.lit (.bool true)], args := [d1, d2] }
  | _ => none }
def hubWrongRow : OpenClaim := { program := "ytajllbdeoopimaa", sum := "a472f35ed9c459f4226f24e6233522316cae25acc0880cb389f63c978f8963d7", func := "baize/baizelaw49.HubWrong", spec := "hubWrong", inPlace := ["internal/bytealg.Compare", "maps.clone"], unfollowed := true, recurses := true, plainKeys := false, apart := false }
def HubWrongSaid : Prop := hubWrongRow.holds Try.pinned (OpenSpec.ofChange hubWrongSpec)

/-- ITS FALSE NEIGHBOUR: 'it returns false'. Refute it at one input. -/
def hubWrongWrong : ChangeSpec := { name := "hubWrong", fn := fun _ => fun
  | [d1, d2] => { results := [.lit (.bool false)], args := [d1, d2] }
  | _ => none }
def HubWrongWrongFalsely : Prop := hubWrongRow.holds Try.pinned (OpenSpec.ofChange hubWrongWrong)

/-- 'baizelaw49.HubSame': WHATEVER THE INPUT: true; the input reads as it did. -/
def hubSameSpec : ChangeSpec := { name := "hubSame", fn := fun _ => fun
  | [d1, d2] => { results := [.lit (.bool true)], args := [d1, d2] }
  | _ => none }
def hubSameRow : OpenClaim := { program := "ytajllbdeoopimaa", sum := "a472f35ed9c459f4226f24e6233522316cae25acc0880cb389f63c978f8963d7", func := "baize/baizelaw49.HubSame", spec := "hubSame", inPlace := ["internal/bytealg.Compare"], unfollowed := true, recurses := true, plainKeys := false, apart := false }
def HubSameSaid : Prop := hubSameRow.holds Try.pinned (OpenSpec.ofChange hubSameSpec)

/-- ITS FALSE NEIGHBOUR: 'it returns false'. Refute it at one input. -/
def hubSameWrong : ChangeSpec := { name := "hubSame", fn := fun _ => fun
  | [d1, d2] => { results := [.lit (.bool false)], args := [d1, d2] }
  | _ => none }
def HubSameWrongFalsely : Prop := hubSameRow.holds Try.pinned (OpenSpec.ofChange hubSameWrong)

/-- 'baizelaw49.HubNil': WHATEVER THE INPUT: true; the input reads as it did. -/
def hubNilSpec : ChangeSpec := { name := "hubNil", fn := fun _ => fun
  | [d] => { results := [.lit (.bool true)], args := [d] }
  | _ => none }
def hubNilRow : OpenClaim := { program := "ytajllbdeoopimaa", sum := "a472f35ed9c459f4226f24e6233522316cae25acc0880cb389f63c978f8963d7", func := "baize/baizelaw49.HubNil", spec := "hubNil", inPlace := ["internal/bytealg.Compare", "maps.clone"], unfollowed := true, recurses := true, plainKeys := false, apart := false }
def HubNilSaid : Prop := hubNilRow.holds Try.pinned (OpenSpec.ofChange hubNilSpec)

/-- ITS FALSE NEIGHBOUR: 'it returns false'. Refute it at one input. -/
def hubNilWrong : ChangeSpec := { name := "hubNil", fn := fun _ => fun
  | [d] => { results := [.lit (.bool false)], args := [d] }
  | _ => none }
def HubNilWrongFalsely : Prop := hubNilRow.holds Try.pinned (OpenSpec.ofChange hubNilWrong)

/- THE SECOND FORM. 'bulk': how many values and letters a reading holds, each counted each time it is reached (what is shared counts as often as it is met; a slice's spare places count too). A statement '..UptoSaid' is the law's where the arguments, and the package variables that the reading takes, are together of bulk at most 1048576: NARROWER than '..Said'. Prove '..Said' where nothing that the law and all that it calls make is longer than what came in: it says more and counts as full. Else prove '..UptoSaid'. A law counts once. -/
mutual
def uptoBulk {H : Type} : DataW H → Nat
  | .lit (.string bytes) => bytes.length + 1
  | .lit _ => 1
  | .nil => 1
  | .ptr d => uptoBulk d + 1
  | .slice elems spare => uptoBulkAll elems + uptoBulkAll spare + 1
  | .agg parts => uptoBulkAll parts + 1
  | .iface _ d => uptoBulk d + 1
  | .map entries => uptoBulkEntries entries + 1
  | .held _ => 1
def uptoBulkAll {H : Type} : List (DataW H) → Nat
  | [] => 0
  | d :: r => uptoBulk d + uptoBulkAll r
def uptoBulkEntries {H : Type} : List (Lit × DataW H) → Nat
  | [] => 0
  | x :: r => uptoBulkEntry x + uptoBulkEntries r
def uptoBulkEntry {H : Type} : Lit × DataW H → Nat
  | (.string bytes, d) => bytes.length + uptoBulk d + 1
  | (_, d) => uptoBulk d + 1
 end
def uptoSmall : (H : Type) → List (DataW H) → Bool := fun _ ds => decide (uptoBulkAll ds ≤ 1048576)
def OpenSpec.upto (s : _root_.Go.ChangeSpec) : _root_.Go.OpenSpec := { _root_.Go.OpenSpec.ofChange s with cond := some uptoSmall }

/-- 'baizelaw49.HubHops', WHERE WHAT IT READS IS OF BULK AT MOST 1048576: true; the input reads as it did. -/
def hubHopsUptoRow : OpenClaim := { program := "ytajllbdeoopimaa", sum := "a472f35ed9c459f4226f24e6233522316cae25acc0880cb389f63c978f8963d7", func := "baize/baizelaw49.HubHops", spec := "hubHops", inPlace := ["internal/bytealg.Compare"], unfollowed := true, recurses := true, plainKeys := false, apart := false, narrowed := true }
def HubHopsUptoSaid : Prop := hubHopsUptoRow.holds Try.pinned (OpenSpec.upto hubHopsSpec)

/-- 'baizelaw49.HubWindow', WHERE WHAT IT READS IS OF BULK AT MOST 1048576: true; the input reads as it did. -/
def hubWindowUptoRow : OpenClaim := { program := "ytajllbdeoopimaa", sum := "a472f35ed9c459f4226f24e6233522316cae25acc0880cb389f63c978f8963d7", func := "baize/baizelaw49.HubWindow", spec := "hubWindow", inPlace := ["internal/bytealg.Compare"], unfollowed := true, recurses := true, plainKeys := false, apart := false, narrowed := true }
def HubWindowUptoSaid : Prop := hubWindowUptoRow.holds Try.pinned (OpenSpec.upto hubWindowSpec)

/-- 'baizelaw49.HubTotals', WHERE WHAT IT READS IS OF BULK AT MOST 1048576: true; the input reads as it did. -/
def hubTotalsUptoRow : OpenClaim := { program := "ytajllbdeoopimaa", sum := "a472f35ed9c459f4226f24e6233522316cae25acc0880cb389f63c978f8963d7", func := "baize/baizelaw49.HubTotals", spec := "hubTotals", inPlace := ["internal/bytealg.Compare"], unfollowed := true, recurses := true, plainKeys := false, apart := false, narrowed := true }
def HubTotalsUptoSaid : Prop := hubTotalsUptoRow.holds Try.pinned (OpenSpec.upto hubTotalsSpec)

/-- 'baizelaw49.HubWorth', WHERE WHAT IT READS IS OF BULK AT MOST 1048576: true; the input reads as it did. -/
def hubWorthUptoRow : OpenClaim := { program := "ytajllbdeoopimaa", sum := "a472f35ed9c459f4226f24e6233522316cae25acc0880cb389f63c978f8963d7", func := "baize/baizelaw49.HubWorth", spec := "hubWorth", inPlace := ["internal/bytealg.Compare"], unfollowed := true, recurses := true, plainKeys := false, apart := false, narrowed := true }
def HubWorthUptoSaid : Prop := hubWorthUptoRow.holds Try.pinned (OpenSpec.upto hubWorthSpec)

/-- 'baizelaw49.HubExpires', WHERE WHAT IT READS IS OF BULK AT MOST 1048576: true; the input reads as it did. -/
def hubExpiresUptoRow : OpenClaim := { program := "ytajllbdeoopimaa", sum := "a472f35ed9c459f4226f24e6233522316cae25acc0880cb389f63c978f8963d7", func := "baize/baizelaw49.HubExpires", spec := "hubExpires", inPlace := ["internal/bytealg.Compare"], unfollowed := true, recurses := true, plainKeys := false, apart := false, narrowed := true }
def HubExpiresUptoSaid : Prop := hubExpiresUptoRow.holds Try.pinned (OpenSpec.upto hubExpiresSpec)

/-- 'baizelaw49.HubWrong', WHERE WHAT IT READS IS OF BULK AT MOST 1048576: true; the input reads as it did. -/
def hubWrongUptoRow : OpenClaim := { program := "ytajllbdeoopimaa", sum := "a472f35ed9c459f4226f24e6233522316cae25acc0880cb389f63c978f8963d7", func := "baize/baizelaw49.HubWrong", spec := "hubWrong", inPlace := ["internal/bytealg.Compare", "maps.clone"], unfollowed := true, recurses := true, plainKeys := false, apart := false, narrowed := true }
def HubWrongUptoSaid : Prop := hubWrongUptoRow.holds Try.pinned (OpenSpec.upto hubWrongSpec)

/-- 'baizelaw49.HubSame', WHERE WHAT IT READS IS OF BULK AT MOST 1048576: true; the input reads as it did. -/
def hubSameUptoRow : OpenClaim := { program := "ytajllbdeoopimaa", sum := "a472f35ed9c459f4226f24e6233522316cae25acc0880cb389f63c978f8963d7", func := "baize/baizelaw49.HubSame", spec := "hubSame", inPlace := ["internal/bytealg.Compare"], unfollowed := true, recurses := true, plainKeys := false, apart := false, narrowed := true }
def HubSameUptoSaid : Prop := hubSameUptoRow.holds Try.pinned (OpenSpec.upto hubSameSpec)

/-- 'baizelaw49.HubNil', WHERE WHAT IT READS IS OF BULK AT MOST 1048576: true; the input reads as it did. -/
def hubNilUptoRow : OpenClaim := { program := "ytajllbdeoopimaa", sum := "a472f35ed9c459f4226f24e6233522316cae25acc0880cb389f63c978f8963d7", func := "baize/baizelaw49.HubNil", spec := "hubNil", inPlace := ["internal/bytealg.Compare", "maps.clone"], unfollowed := true, recurses := true, plainKeys := false, apart := false, narrowed := true }
def HubNilUptoSaid : Prop := hubNilUptoRow.holds Try.pinned (OpenSpec.upto hubNilSpec)

end Rows
end Go.Proofs.Ytajllbdeoopimaa

/-
  No cell of these rows narrows 'for every input' (looked for: loops, veiled, ifaces, maps, wideKeys, modest, calm, conditions, laid).
  DERIVED. THE GIVEN ROWS OF THIS SEAT. 8 by the template 'for every input the law returns true; each argument reads behind the call as it read before'; 0 by the template 'total and deterministic' (their statements: YtnoipmimddoioaaTotals.lean).
  GIVEN WITH THE SEED: the statements are not yours to turn. If you find one false, say at which input.
  Laid BY PROGRAM, IN A SANDBOX (cutbox-rows.mjs): the forced cells as the released guide's own fill.sh prints them over the translation 1a8cc3b3e20875ff… (all of the seat's roots in one cut). By AI agents, Wed Nov 11 2026. No macro, syntax, notation, axiom, sorry.
-/
import Derived.Test.YtnoipmimddoioaaChecked
import GoSem.Claim
import GoSem.ClaimJoined
import GoSem.ClaimMapViews
import Derived.JoinedTies
import Derived.KernelRfl
namespace Go.Proofs.Ytnoipmimddoioaa
/- THE CELL 'sum', in the pinned program and in every row, IS THE sha256 OF THE DUMP (.gsa) THAT YtnoipmimddoioaaProg.lean LOADS. Nothing in Lean hashes anything: it is a label: what it is worth is what the hold of that sum in a sandbox is worth. -/
noncomputable def Try.pinned : Pinned := { name := "ytnoipmimddoioaa", sum := "1a8cc3b3e20875fffe83fe0768c6718410fe86fd82995a790b99211b1bbae82e", checked := Try.checked }
namespace Rows
def none {H : Type} : Left H := { results := [], args := [] }

/-- 'baizelaw53.LobbyFair': WHATEVER THE INPUT: true; the input reads as it did. -/
def lobbyFairSpec : ChangeSpec := { name := "lobbyFair", fn := fun _ => fun
  | [d] => { results := [.lit (.bool true)], args := [d] }
  | _ => none }
def lobbyFairRow : OpenClaim := { program := "ytnoipmimddoioaa", sum := "1a8cc3b3e20875fffe83fe0768c6718410fe86fd82995a790b99211b1bbae82e", func := "baize/baizelaw53.LobbyFair", spec := "lobbyFair", unfollowed := true, recurses := true, apart := false }
def LobbyFairSaid : Prop := lobbyFairRow.holds Try.pinned (OpenSpec.ofChange lobbyFairSpec)

/-- ITS FALSE NEIGHBOUR: 'it returns false'. Refute it at one input. -/
def lobbyFairWrong : ChangeSpec := { name := "lobbyFair", fn := fun _ => fun
  | [d] => { results := [.lit (.bool false)], args := [d] }
  | _ => none }
def LobbyFairWrongFalsely : Prop := lobbyFairRow.holds Try.pinned (OpenSpec.ofChange lobbyFairWrong)

/-- 'baizelaw53.LobbyDeals': WHATEVER THE INPUT: true; the input reads as it did. -/
def lobbyDealsSpec : ChangeSpec := { name := "lobbyDeals", fn := fun _ => fun
  | [d] => { results := [.lit (.bool true)], args := [d] }
  | _ => none }
def lobbyDealsRow : OpenClaim := { program := "ytnoipmimddoioaa", sum := "1a8cc3b3e20875fffe83fe0768c6718410fe86fd82995a790b99211b1bbae82e", func := "baize/baizelaw53.LobbyDeals", spec := "lobbyDeals", unfollowed := true, recurses := true, apart := false }
def LobbyDealsSaid : Prop := lobbyDealsRow.holds Try.pinned (OpenSpec.ofChange lobbyDealsSpec)

/-- ITS FALSE NEIGHBOUR: 'it returns false'. Refute it at one input. -/
def lobbyDealsWrong : ChangeSpec := { name := "lobbyDeals", fn := fun _ => fun
  | [d] => { results := [.lit (.bool false)], args := [d] }
  | _ => none }
def LobbyDealsWrongFalsely : Prop := lobbyDealsRow.holds Try.pinned (OpenSpec.ofChange lobbyDealsWrong)

/-- 'baizelaw53.LobbyNames': WHATEVER THE INPUT: true; the input reads as it did. -/
def lobbyNamesSpec : ChangeSpec := { name := "lobbyNames", fn := fun _ => fun
  | [d1, d2] => { results := [.lit (.bool true)], args := [d1, d2] }
  | _ => none }
def lobbyNamesRow : OpenClaim := { program := "ytnoipmimddoioaa", sum := "1a8cc3b3e20875fffe83fe0768c6718410fe86fd82995a790b99211b1bbae82e", func := "baize/baizelaw53.LobbyNames", spec := "lobbyNames", unfollowed := true, recurses := true, apart := false }
def LobbyNamesSaid : Prop := lobbyNamesRow.holds Try.pinned (OpenSpec.ofChange lobbyNamesSpec)

/-- ITS FALSE NEIGHBOUR: 'it returns false'. Refute it at one input. -/
def lobbyNamesWrong : ChangeSpec := { name := "lobbyNames", fn := fun _ => fun
  | [d1, d2] => { results := [.lit (.bool false)], args := [d1, d2] }
  | _ => none }
def LobbyNamesWrongFalsely : Prop := lobbyNamesRow.holds Try.pinned (OpenSpec.ofChange lobbyNamesWrong)

/-- 'baizelaw53.LobbyFollows': WHATEVER THE INPUT: true; the input reads as it did. -/
def lobbyFollowsSpec : ChangeSpec := { name := "lobbyFollows", fn := fun _ => fun
  | [d1, d2, d3] => { results := [.lit (.bool true)], args := [d1, d2, d3] }
  | _ => none }
def lobbyFollowsRow : OpenClaim := { program := "ytnoipmimddoioaa", sum := "1a8cc3b3e20875fffe83fe0768c6718410fe86fd82995a790b99211b1bbae82e", func := "baize/baizelaw53.LobbyFollows", spec := "lobbyFollows", unfollowed := true, recurses := true, apart := false }
def LobbyFollowsSaid : Prop := lobbyFollowsRow.holds Try.pinned (OpenSpec.ofChange lobbyFollowsSpec)

/-- ITS FALSE NEIGHBOUR: 'it returns false'. Refute it at one input. -/
def lobbyFollowsWrong : ChangeSpec := { name := "lobbyFollows", fn := fun _ => fun
  | [d1, d2, d3] => { results := [.lit (.bool false)], args := [d1, d2, d3] }
  | _ => none }
def LobbyFollowsWrongFalsely : Prop := lobbyFollowsRow.holds Try.pinned (OpenSpec.ofChange lobbyFollowsWrong)

/-- 'baizelaw53.LobbyOrder': WHATEVER THE INPUT: true; the input reads as it did. -/
def lobbyOrderSpec : ChangeSpec := { name := "lobbyOrder", fn := fun _ => fun
  | [d1, d2] => { results := [.lit (.bool true)], args := [d1, d2] }
  | _ => none }
def lobbyOrderRow : OpenClaim := { program := "ytnoipmimddoioaa", sum := "1a8cc3b3e20875fffe83fe0768c6718410fe86fd82995a790b99211b1bbae82e", func := "baize/baizelaw53.LobbyOrder", spec := "lobbyOrder", unfollowed := true, recurses := true, apart := false }
def LobbyOrderSaid : Prop := lobbyOrderRow.holds Try.pinned (OpenSpec.ofChange lobbyOrderSpec)

/-- ITS FALSE NEIGHBOUR: 'it returns false'. Refute it at one input. -/
def lobbyOrderWrong : ChangeSpec := { name := "lobbyOrder", fn := fun _ => fun
  | [d1, d2] => { results := [.lit (.bool false)], args := [d1, d2] }
  | _ => none }
def LobbyOrderWrongFalsely : Prop := lobbyOrderRow.holds Try.pinned (OpenSpec.ofChange lobbyOrderWrong)

/-- 'baizelaw53.LobbySooner': WHATEVER THE INPUT: true; the input reads as it did. -/
def lobbySoonerSpec : ChangeSpec := { name := "lobbySooner", fn := fun _ => fun
  | [d1, d2] => { results := [.lit (.bool true)], args := [d1, d2] }
  | _ => none }
def lobbySoonerRow : OpenClaim := { program := "ytnoipmimddoioaa", sum := "1a8cc3b3e20875fffe83fe0768c6718410fe86fd82995a790b99211b1bbae82e", func := "baize/baizelaw53.LobbySooner", spec := "lobbySooner", unfollowed := true, recurses := true, apart := false }
def LobbySoonerSaid : Prop := lobbySoonerRow.holds Try.pinned (OpenSpec.ofChange lobbySoonerSpec)

/-- ITS FALSE NEIGHBOUR: 'it returns false'. Refute it at one input. -/
def lobbySoonerWrong : ChangeSpec := { name := "lobbySooner", fn := fun _ => fun
  | [d1, d2] => { results := [.lit (.bool false)], args := [d1, d2] }
  | _ => none }
def LobbySoonerWrongFalsely : Prop := lobbySoonerRow.holds Try.pinned (OpenSpec.ofChange lobbySoonerWrong)

/-- 'baizelaw53.LobbyMatch': WHATEVER THE INPUT: true; the input reads as it did. -/
def lobbyMatchSpec : ChangeSpec := { name := "lobbyMatch", fn := fun _ => fun
  | [d] => { results := [.lit (.bool true)], args := [d] }
  | _ => none }
def lobbyMatchRow : OpenClaim := { program := "ytnoipmimddoioaa", sum := "1a8cc3b3e20875fffe83fe0768c6718410fe86fd82995a790b99211b1bbae82e", func := "baize/baizelaw53.LobbyMatch", spec := "lobbyMatch", unfollowed := true, recurses := true, apart := false }
def LobbyMatchSaid : Prop := lobbyMatchRow.holds Try.pinned (OpenSpec.ofChange lobbyMatchSpec)

/-- ITS FALSE NEIGHBOUR: 'it returns false'. Refute it at one input. -/
def lobbyMatchWrong : ChangeSpec := { name := "lobbyMatch", fn := fun _ => fun
  | [d] => { results := [.lit (.bool false)], args := [d] }
  | _ => none }
def LobbyMatchWrongFalsely : Prop := lobbyMatchRow.holds Try.pinned (OpenSpec.ofChange lobbyMatchWrong)

/-- 'baizelaw53.LobbyNil': WHATEVER THE INPUT: true; the input reads as it did. -/
def lobbyNilSpec : ChangeSpec := { name := "lobbyNil", fn := fun _ => fun
  | [d1, d2] => { results := [.lit (.bool true)], args := [d1, d2] }
  | _ => none }
def lobbyNilRow : OpenClaim := { program := "ytnoipmimddoioaa", sum := "1a8cc3b3e20875fffe83fe0768c6718410fe86fd82995a790b99211b1bbae82e", func := "baize/baizelaw53.LobbyNil", spec := "lobbyNil", unfollowed := true, recurses := true, apart := false }
def LobbyNilSaid : Prop := lobbyNilRow.holds Try.pinned (OpenSpec.ofChange lobbyNilSpec)

/-- ITS FALSE NEIGHBOUR: 'it returns false'. Refute it at one input. -/
def lobbyNilWrong : ChangeSpec := { name := "lobbyNil", fn := fun _ => fun
  | [d1, d2] => { results := [.lit (.bool false)], args := [d1, d2] }
  | _ => none }
def LobbyNilWrongFalsely : Prop := lobbyNilRow.holds Try.pinned (OpenSpec.ofChange lobbyNilWrong)

/- THE SECOND FORM. 'bulk': how many values and letters a reading holds, each counted each time it is reached (what is shared counts as often as it is met; a slice's spare places count too). A statement '..UptoSaid' is the law's where the arguments, and the package variables that the reading takes, are together of bulk at most 1048576: NARROWER than '..Said'. Prove '..Said' where nothing that the law and all that it calls make is longer than what came in: it says more and counts as full. Else prove '..UptoSaid'. A law counts once. -/
mutual
def uptoBulk {H : Type} : DataW H → Nat
  | .lit (.string bytes) => bytes.length + 1
  | .lit _ => 1
  | .nil => 1
  | .ptr d => uptoBulk d + 1
  | .slice elems spare => uptoBulkAll elems + uptoBulkAll spare + 1
  | .agg parts => uptoBulkAll parts + 1
  | .iface _ d => uptoBulk d + 1
  | .map entries => uptoBulkEntries entries + 1
  | .held _ => 1
def uptoBulkAll {H : Type} : List (DataW H) → Nat
  | [] => 0
  | d :: r => uptoBulk d + uptoBulkAll r
def uptoBulkEntries {H : Type} : List (Lit × DataW H) → Nat
  | [] => 0
  | x :: r => uptoBulkEntry x + uptoBulkEntries r
def uptoBulkEntry {H : Type} : Lit × DataW H → Nat
  | (.string bytes, d) => bytes.length + uptoBulk d + 1
  | (_, d) => uptoBulk d + 1
 end
def uptoSmall : (H : Type) → List (DataW H) → Bool := fun _ ds => decide (uptoBulkAll ds ≤ 1048576)
def OpenSpec.upto (s : _root_.Go.ChangeSpec) : _root_.Go.OpenSpec := { _root_.Go.OpenSpec.ofChange s with cond := some uptoSmall }

/-- 'baizelaw53.LobbyFair', WHERE WHAT IT READS IS OF BULK AT MOST 1048576: true; the input reads as it did. -/
def lobbyFairUptoRow : OpenClaim := { program := "ytnoipmimddoioaa", sum := "1a8cc3b3e20875fffe83fe0768c6718410fe86fd82995a790b99211b1bbae82e", func := "baize/baizelaw53.LobbyFair", spec := "lobbyFair", unfollowed := true, recurses := true, apart := false, narrowed := true }
def LobbyFairUptoSaid : Prop := lobbyFairUptoRow.holds Try.pinned (OpenSpec.upto lobbyFairSpec)

/-- 'baizelaw53.LobbyDeals', WHERE WHAT IT READS IS OF BULK AT MOST 1048576: true; the input reads as it did. -/
def lobbyDealsUptoRow : OpenClaim := { program := "ytnoipmimddoioaa", sum := "1a8cc3b3e20875fffe83fe0768c6718410fe86fd82995a790b99211b1bbae82e", func := "baize/baizelaw53.LobbyDeals", spec := "lobbyDeals", unfollowed := true, recurses := true, apart := false, narrowed := true }
def LobbyDealsUptoSaid : Prop := lobbyDealsUptoRow.holds Try.pinned (OpenSpec.upto lobbyDealsSpec)

/-- 'baizelaw53.LobbyNames', WHERE WHAT IT READS IS OF BULK AT MOST 1048576: true; the input reads as it did. -/
def lobbyNamesUptoRow : OpenClaim := { program := "ytnoipmimddoioaa", sum := "1a8cc3b3e20875fffe83fe0768c6718410fe86fd82995a790b99211b1bbae82e", func := "baize/baizelaw53.LobbyNames", spec := "lobbyNames", unfollowed := true, recurses := true, apart := false, narrowed := true }
def LobbyNamesUptoSaid : Prop := lobbyNamesUptoRow.holds Try.pinned (OpenSpec.upto lobbyNamesSpec)

/-- 'baizelaw53.LobbyFollows', WHERE WHAT IT READS IS OF BULK AT MOST 1048576: true; the input reads as it did. -/
def lobbyFollowsUptoRow : OpenClaim := { program := "ytnoipmimddoioaa", sum := "1a8cc3b3e20875fffe83fe0768c6718410fe86fd82995a790b99211b1bbae82e", func := "baize/baizelaw53.LobbyFollows", spec := "lobbyFollows", unfollowed := true, recurses := true, apart := false, narrowed := true }
def LobbyFollowsUptoSaid : Prop := lobbyFollowsUptoRow.holds Try.pinned (OpenSpec.upto lobbyFollowsSpec)

/-- 'baizelaw53.LobbyOrder', WHERE WHAT IT READS IS OF BULK AT MOST 1048576: true; the input reads as it did. -/
def lobbyOrderUptoRow : OpenClaim := { program := "ytnoipmimddoioaa", sum := "1a8cc3b3e20875fffe83fe0768c6718410fe86fd82995a790b99211b1bbae82e", func := "baize/baizelaw53.LobbyOrder", spec := "lobbyOrder", unfollowed := true, recurses := true, apart := false, narrowed := true }
def LobbyOrderUptoSaid : Prop := lobbyOrderUptoRow.holds Try.pinned (OpenSpec.upto lobbyOrderSpec)

/-- 'baizelaw53.LobbySooner', WHERE WHAT IT READS IS OF BULK AT MOST 1048576: true; the input reads as it did. -/
def lobbySoonerUptoRow : OpenClaim := { program := "ytnoipmimddoioaa", sum := "1a8cc3b3e20875fffe83fe0768c6718410fe86fd82995a790b99211b1bbae82e", func := "baize/baizelaw53.LobbySooner", spec := "lobbySooner", unfollowed := true, recurses := true, apart := false, narrowed := true }
def LobbySoonerUptoSaid : Prop := lobbySoonerUptoRow.holds Try.pinned (OpenSpec.upto lobbySoonerSpec)

/-- 'baizelaw53.LobbyMatch', WHERE WHAT IT READS IS OF BULK AT MOST 1048576: true; the input reads as it did. -/
def lobbyMatchUptoRow : OpenClaim := { program := "ytnoipmimddoioaa", sum := "1a8cc3b3e20875fffe83fe0768c6718410fe86fd82995a790b99211b1bbae82e", func := "baize/baizelaw53.LobbyMatch", spec := "lobbyMatch", unfollowed := true, recurses := true, apart := false, narrowed := true }
def LobbyMatchUptoSaid : Prop := lobbyMatchUptoRow.holds Try.pinned (OpenSpec.upto lobbyMatchSpec)

/-- 'baizelaw53.LobbyNil', WHERE WHAT IT READS IS OF BULK AT MOST 1048576: true; the input reads as it did. -/
def lobbyNilUptoRow : OpenClaim := { program := "ytnoipmimddoioaa", sum := "1a8cc3b3e20875fffe83fe0768c6718410fe86fd82995a790b99211b1bbae82e", func := "baize/baizelaw53.LobbyNil", spec := "lobbyNil", unfollowed := true, recurses := true, apart := false, narrowed := true }
def LobbyNilUptoSaid : Prop := lobbyNilUptoRow.holds Try.pinned (OpenSpec.upto lobbyNilSpec)

end Rows
end Go.Proofs.Ytnoipmimddoioaa

/-
  ForkClones answers true for every input, and leaves its arguments as they were. No conditions.
-/
import Derived.Test.YtpnenekgldggbaaRowKit
import Derived.Test.YtpnenekgldggbaaClones
namespace Go.Proofs.Ytpnenekgldggbaa
open Go.ChangeShapes Go.WideShapes Go.ChangeAt Go.RowKit
set_option linter.unusedVariables false

set_option maxRecDepth 100000 in
theorem forkClones_lifted (os : Os) (started : os.Started) (H : Type) (enc : TypeId × Value → H) :
    ReturnsInHanded {} Try.checked os 8 .any (Rows.forkClonesSpec.pre6 enc Try.prog Try.f8 Rows.forkClonesRow.domain false) (Rows.forkClonesSpec.post enc Try.prog Try.f8 false true false false) := by
  refine returnsInHanded_of_change (C := Try.checked) own started (by kernel_rfl) Try.func8
    (ChangeSpec.witness6 (enc := enc) (C := Try.checked) false ⟨#[], #[.int .i64 0, .slice none 0 0, .slice none 0 0], []⟩ 8 (by kernel_rfl) (by kernel_rfl) (by kernel_rfl) (by kernel_rfl)) ?_
  intro W base args ds gs before hval0 hW hcnd _
  have hval : ∀ (j : Nat) t v, Try.f8.params[j]? = some t → args[j]? = some v → Value.okWide Try.prog W .any base t v := hval0
  have hW' : DataW.Whole enc Try.prog Try.f8.params.toList Rows.forkClonesSpec.vars false W args.toList ds gs before := hW
  obtain ⟨p, q, hA0, hV, rfl, hfz, hnd⟩ := hW
  have hA : DataW.TrodAll enc Try.prog W 0 (fun _ => true) true Try.f8.params.toList args.toList ds p := hA0
  rw [Try.params8] at hA hval
  obtain ⟨v0, v1, v2, d0, d1, d2, p0, p1, p2, rfl, rfl, rfl, h0, h1, h2⟩ := trodAll_three hA
  obtain ⟨x0, rfl, hd0, _, wf0⟩ := open_int Try.underlying3 (hval 0 3 v0 rfl rfl) h0
  obtain ⟨a1, n1, c1, rfl, hn1, hc1, hs1⟩ := open_sl Try.underlying22 (by rw [cells35]; omega) (hval 1 22 v1 rfl rfl) h1
  obtain ⟨l1, hl1⟩ := coms_of hs1
  obtain ⟨a2, n2, c2, rfl, hn2, hc2, hs2⟩ := open_sl Try.underlying22 (by rw [cells35]; omega) (hval 2 22 v2 rfl rfl) h2
  obtain ⟨l2, hl2⟩ := coms_of hs2
  refine (clones_spec W x0 a1 n1 c1 l1 hl1 a2 n2 c2 l2 hl2).mono fun e W' ⟨he, hk⟩ => ⟨_, he, ?_⟩
  exact law_post laidOut (by rw [Try.params8]; exact of_decide_eq_true (by kernel_rfl)) rfl hW' rfl (by kernel_rfl) Try.underlying4 hk

theorem forkClones_holds : Rows.ForkClonesSaid :=
  OpenClaim.holds_of_wide 8 Try.f8 rfl rfl rfl rfl rfl rfl rfl ⟨rfl, rfl, rfl, rfl, rfl⟩ rfl rfl rfl rfl rfl (by kernel_rfl) Try.func8 (by kernel_rfl)
    (of_decide_eq_true (by kernel_rfl)) (by unfold Func.isWrapper; first | (rw [if_pos (by decide +kernel)]; kernel_rfl) | (rw [if_neg (by decide +kernel)]; exact ⟨rfl, rfl⟩))
    (fun os started H enc _ => forkClones_lifted os started H enc)
end Go.Proofs.Ytpnenekgldggbaa

/-
  Two nets beside one another; what a deed makes of a net.
-/
import Derived.Test.YtfelaicoedlejaaDeed
namespace Go.Proofs.Ytfelaicoedlejaa
set_option linter.unusedVariables false

/-- What becomes of a net by sending, whatever is asked. -/
def Ns.sendD (s : Ns) (A B : Int) (bs : List UInt8) (later : List Int) : Ns := if s.sendE A B bs.length later = 0 then s.sendAll A.toNat B.toNat bs later else s
def Ns.cutE (s : Ns) (A B : Int) : Int := if ¬ (0 ≤ A ∧ A < s.parties) ∨ ¬ (0 ≤ B ∧ B < s.parties) then 28 else 0
def Ns.cutD (s : Ns) (A B : Int) (b : Bool) : Ns := if s.cutE A B = 0 then s.setCut A.toNat B.toNat b else s

/-- Two nets made behind w0. -/
def At2 (w0 w : World) (bx mx : Nat) (sx : Ns) (cy my : Nat) (sy : Ns) : Prop := Kp [] w0 w ∧ ∃ dx dy, Rep w bx mx sx dx ∧ Rep w cy my sy dy ∧ (∀ z, Uses bx mx dx z → w0.heap.size ≤ z) ∧ (∀ z, Uses cy my dy z → w0.heap.size ≤ z) ∧ ∀ z, Uses bx mx dx z → ¬ Uses cy my dy z
section
variable {w0 w : World} {bx mx : Nat} {sx : Ns} {cy my : Nat} {sy : Ns}
theorem At2.symm (h : At2 w0 w bx mx sx cy my sy) : At2 w0 w cy my sy bx mx sx := by
  obtain ⟨h0, dx, dy, h1, h2, h3, h4, h5⟩ := h
  exact ⟨h0, dy, dx, h2, h1, h4, h3, fun z hz hu => h5 z hu hz⟩
theorem At2.kp (h : At2 w0 w bx mx sx cy my sy) : Kp [] w0 w := h.1
theorem At2.kp0 {w' : World} (h : At2 w0 w bx mx sx cy my sy) (hk : Kp [] w w') : At2 w0 w' bx mx sx cy my sy := by
  obtain ⟨h0, dx, dy, h1, h2, h3, h4, h5⟩ := h
  exact ⟨h0.trans hk, dx, dy, h1.kp0 hk, h2.kp0 hk, h3, h4, h5⟩
theorem At2.kpb {w' : World} (h : At2 w0 w bx mx sx cy my sy) {z : Nat} {cs : Array Value} {T : TypeId} (hz : Blk w z (.cells cs T)) (hz0 : w0.heap.size ≤ z) (h5 : T ≠ 5) (h72 : T ≠ 72) (h77 : T ≠ 77) (hk : Kp [z] w w') : At2 w0 w' bx mx sx cy my sy := by
  obtain ⟨h0, dx, dy, h1, h2, h3, h4, h6⟩ := h
  exact ⟨h0.trans_new hk (new1 hz0), dx, dy, h1.kp1 hz h5 h72 h77 hk, h2.kp1 hz h5 h72 h77 hk, h3, h4, h6⟩
/-- The first one has turned, the second one stays. -/
theorem At2.turn {w' : World} {sx' : Ns} {dx dx' dy : Due} (h0 : Kp [] w0 w) (h1 : Rep w bx mx sx dx) (h2 : Rep w cy my sy dy) (h3 : ∀ z, Uses bx mx dx z → w0.heap.size ≤ z) (h4 : ∀ z, Uses cy my dy z → w0.heap.size ≤ z) (h5 : ∀ z, Uses bx mx dx z → ¬ Uses cy my dy z)
    (hk : Kp (sendS bx mx dx) w w') (hR : Rep w' bx mx sx' dx') (hU : ∀ z, Uses bx mx dx' z → Uses bx mx dx z ∨ w.heap.size ≤ z) : At2 w0 w' bx mx sx' cy my sy := by
  refine ⟨At.kpU h0 h3 hk, dx', dy, hR, h2.kp hk (fun z hz hu => h5 z (uses_sendS hz) hu), fun z hz => ?_, h4, fun z hz hu => ?_⟩
  · rcases hU z hz with h | h
    · exact h3 z h
    · have := h0.size
      omega
  · rcases hU z hz with h | h
    · exact h5 z h hu
    · have := h2.uses_lt hu
      omega
theorem sendE_dec {s : Ns} {A B : Int} {n : Nat} {later : List Int} (h : s.sendE A B n later = 0) : 0 ≤ A ∧ A < s.parties ∧ 0 ≤ B ∧ B < s.parties := by
  unfold Ns.sendE at h
  split at h
  · cases h
  · omega
theorem send2 (h : At2 w0 w bx mx sx cy my sy) (hnow : sx.now ≤ 1000000000000) (hsent : sx.sent ≤ 1000000000000) (hpl : sx.pend.length ≤ 4096) (A B : Int) (ab : Option Addr) (cb : Nat) (bs : List UInt8) (hSb : Sl byc 1 w ab bs) (al : Option Addr) (cl : Nat) (later : List Int)
    (hS : SlI w0 al later) (hl : later.length ≤ 100000) (hb : bs.length ≤ 1000000) : Calls Try.prog 13 #[.pointer (some ⟨bx, 0, none⟩), lv A B ab bs.length cb, fv al later.length cl] w (fun e w' => e = .returned (.int .i64 (sx.sendE A B bs.length later)) ∧ At2 w0 w' bx mx (sx.sendD A B bs later) cy my sy ∧ Kt mx w w') := by
  have h' := h
  obtain ⟨h0, dx, dy, h1, h2, h3, h4, h5⟩ := h
  by_cases hE : sx.sendE A B bs.length later = 0
  · obtain ⟨a1, a2, a3, a4⟩ := sendE_dec hE
    obtain ⟨A, rfl⟩ : ∃ k : Nat, A = (k : Int) := ⟨A.toNat, by omega⟩
    obtain ⟨B, rfl⟩ : ∃ k : Nat, B = (k : Int) := ⟨B.toNat, by omega⟩
    refine (send_good h1 hnow hsent A B ab cb bs hSb al cl later (fun w' hk => hS.kp0 (At.kpU h0 h3 hk)) hE).mono (fun e w' h => ?_)
    obtain ⟨dx', he, hR, hU, hk⟩ := h
    refine ⟨by rw [hE]; exact he, ?_, Kt.send h1 hk⟩
    unfold Ns.sendD
    rw [if_pos hE]
    exact At2.turn h0 h1 h2 h3 h4 h5 hk hR hU
  · refine (send_bad h1 (by omega) A B ab bs.length cb al cl later (hS.kp0 h0) hl (by omega) hE).mono (fun e w' h => ?_)
    obtain ⟨he, hk⟩ := h
    refine ⟨he, ?_, Kt.of0 hk⟩
    unfold Ns.sendD
    rw [if_neg hE]
    exact h'.kp0 hk
theorem step2 (h : At2 w0 w bx mx sx cy my sy) (hnow : sx.now ≤ 1000000000000) (hpl : sx.pend.length ≤ 4096) (hin : ∀ c ∈ sx.pend, c.fr < 16 ∧ c.to < 16 ∧ c.bs.length ≤ 65536) : Calls Try.prog 14 #[.pointer (some ⟨bx, 0, none⟩)] w (fun e w' => ∃ v ls, e = .returned v ∧ w'.ownsRow w.heap.size 35 3 v ls.length (flt lcl ls) ∧ ls.map ltc = (sx.open_ sx.come).map cpc
    ∧ (∀ l ∈ ls, ByAt w' l.a l.bs ∧ ∀ b off, l.a = some ⟨b, off, none⟩ → w.heap.size ≤ b) ∧ At2 w0 w' bx mx sx.step cy my sy ∧ Kt mx w w') := by
  obtain ⟨h0, dx, dy, h1, h2, h3, h4, h5⟩ := h
  refine (step_spec h1 hnow hpl hin).mono (fun e w' h => ?_)
  obtain ⟨v, dx', ls, he, ho, hl, hb, hR, hU, hk⟩ := h
  have hk' : Kp (sendS bx mx dx) w w' := hk.mono (fun x hx => by
    rcases List.mem_cons.1 hx with rfl | hx
    · simp [sendS]
    · rw [List.mem_singleton] at hx
      subst hx
      simp [sendS])
  exact ⟨v, ls, he, ho, hl, hb, At2.turn h0 h1 h2 h3 h4 h5 hk' hR (fun z hz => Or.inl (hU z hz)), Kt.send h1 hk'⟩
theorem cut2 (h : At2 w0 w bx mx sx cy my sy) (A B : Int) (b : Bool) (h16 : sx.parties ≤ 16) : Calls Try.prog 18 #[.pointer (some ⟨bx, 0, none⟩), .int .i64 A, .int .i64 B, .bool b] w (fun e w' => e = .returned (.int .i64 (sx.cutE A B)) ∧ At2 w0 w' bx mx (sx.cutD A B b) cy my sy ∧ Kt mx w w') := by
  have h' := h
  obtain ⟨h0, dx, dy, h1, h2, h3, h4, h5⟩ := h
  by_cases hE : ¬ (0 ≤ A ∧ A < sx.parties) ∨ ¬ (0 ≤ B ∧ B < sx.parties)
  · refine (cut_bad h1 A B b hE).mono (fun e w' h => ?_)
    obtain ⟨he, hk⟩ := h
    have e28 : sx.cutE A B = 28 := by unfold Ns.cutE; rw [if_pos hE]
    refine ⟨by rw [e28]; exact he, ?_, Kt.of0 hk⟩
    unfold Ns.cutD
    rw [if_neg (by rw [e28]; decide)]
    exact h'.kp0 hk
  · obtain ⟨A, rfl⟩ : ∃ k : Nat, A = (k : Int) := ⟨A.toNat, by omega⟩
    obtain ⟨B, rfl⟩ : ∃ k : Nat, B = (k : Int) := ⟨B.toNat, by omega⟩
    refine (cut_good h1 A B b h16 (by omega) (by omega)).mono (fun e w' h => ?_)
    obtain ⟨he, hR, hk⟩ := h
    have e0 : sx.cutE A B = 0 := by unfold Ns.cutE; rw [if_neg hE]
    have hk' : Kp (sendS bx mx dx) w w' := hk.mono (fun x hx => by
      rw [List.mem_singleton] at hx
      subst hx
      simp [sendS])
    refine ⟨by rw [e0]; exact he, ?_, Kt.send h1 hk'⟩
    unfold Ns.cutD
    rw [if_pos e0]
    exact At2.turn h0 h1 h2 h3 h4 h5 hk' hR (fun z hz => Or.inl hz)
end
/-- Two nets of so many parties. -/
theorem At2.make {w w1 w2 : World} {bx mx cy my : Nat} {s s' : Ns} (hx : At w w1 bx mx s) (hy : At w1 w2 cy my s') : At2 w w2 bx mx s cy my s' := by
  obtain ⟨h1, dx, h2, h3⟩ := hx
  obtain ⟨k1, dy, k2, k3⟩ := hy
  refine ⟨h1.trans k1, dx, dy, h2.kp0 k1, k2, h3, fun z hz => ?_, fun z hz hu => ?_⟩
  · have := k3 z hz
    have := h1.size
    omega
  · have := h2.uses_lt hz
    have := k3 z hu
    omega
end Go.Proofs.Ytfelaicoedlejaa

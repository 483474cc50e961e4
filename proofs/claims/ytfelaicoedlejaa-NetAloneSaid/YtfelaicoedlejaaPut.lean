/-
  A copy comes into the net.
-/
import Derived.Test.YtfelaicoedlejaaBc
import Derived.Test.YtfelaicoedlejaaApp
namespace Go.Proofs.Ytfelaicoedlejaa
set_option linter.unusedVariables false

section
variable {κ ν : Type} [DecidableEq κ]
theorem mem_aput {m : List (κ × ν)} {x : κ} {y : ν} (hn : (m.map (·.1)).Nodup) : ∀ {e : κ × ν}, e ∈ aput m x y → e = (x, y) ∨ (e ∈ m ∧ e.1 ≠ x) := by
  induction m with
  | nil =>
    intro e he
    simp only [aput, List.mem_singleton] at he
    exact Or.inl he
  | cons p m ih =>
    intro e he
    obtain ⟨k, v⟩ := p
    simp only [List.map_cons, List.nodup_cons] at hn
    simp only [aput] at he
    by_cases hk : k = x
    · rw [if_pos hk] at he
      rcases List.mem_cons.1 he with h | h
      · exact Or.inl (by rw [h, hk])
      · refine Or.inr ⟨List.mem_cons_of_mem _ h, fun e1 => hn.1 ?_⟩
        rw [hk, ← e1]
        exact List.mem_map.2 ⟨e, h, rfl⟩
    · rw [if_neg hk] at he
      rcases List.mem_cons.1 he with h | h
      · exact Or.inr ⟨by rw [h]; exact List.mem_cons_self, by rw [h]; exact hk⟩
      · rcases ih hn.2 h with h | ⟨h1, h2⟩
        · exact Or.inl h
        · exact Or.inr ⟨List.mem_cons_of_mem _ h1, h2⟩
theorem alook_mem {m : List (κ × ν)} {x : κ} {y : ν} (h : alook m x = some y) : (x, y) ∈ m := by
  induction m with
  | nil => cases h
  | cons p m ih =>
    obtain ⟨k, v⟩ := p
    simp only [alook] at h
    by_cases hk : k = x
    · rw [if_pos hk] at h
      cases h
      rw [hk]
      exact List.mem_cons_self
    · rw [if_neg hk] at h
      exact List.mem_cons_of_mem _ (ih h)
end
theorem mem_ownB {v : Value} {z : Nat} : z ∈ ownB v ↔ v.ownBlock = some z := by
  unfold ownB
  cases h : v.ownBlock with
  | none => simp
  | some b => simp [eq_comm]
theorem own_blk {w : World} {base n sz : Nat} {T : TypeId} {v : Value} {xs : List Value} (h : w.ownsRow base T sz v n xs) {z : Nat} (hz : v.ownBlock = some z) : ∃ cs, Blk w z (.cells cs T) := by
  rcases h.2 with ⟨rfl, _⟩ | ⟨g, cap, cur, rfl, _, hh, _⟩
  · cases hz
  · simp only [Value.ownBlock, Option.some.injEq] at hz
    subst hz
    exact ⟨cur, hh⟩
theorem MapIs.blk {κ ν : Type} {w : World} {b : Nat} {enc : κ → Value} {V : ν → Value} {m : List (κ × ν)} (h : MapIs w b enc V m) : ∃ es c, Blk w b (.map es c) := by
  obtain ⟨es, c, hb, _⟩ := h
  exact ⟨es, c, hb⟩
theorem ne_map {w : World} {b z : Nat} {es : Array MapEntry} {c : Nat} {cs : Array Value} {T : TypeId} (h : Blk w b (.map es c)) (h' : Blk w z (.cells cs T)) : z ≠ b := by
  rintro rfl
  cases h.uniq h'
theorem ne_ty {w : World} {b z : Nat} {cs cs' : Array Value} {T T' : TypeId} (hT : T ≠ T') (h : Blk w b (.cells cs T)) (h' : Blk w z (.cells cs' T')) : z ≠ b := by
  rintro rfl
  have := h.uniq h'
  simp only [Obj.cells.injEq] at this
  exact hT this.2.1

/-- The slice and the parcels of a tick. -/
def tick (due : Due) (k : I64) : Value × List Pc := (alook due k).getD (.slice none 0 0, [])
theorem Rep.own_tick {w : World} {bt bm : Nat} {s : Ns} {due : Due} (h : Rep w bt bm s due) (k : I64) : w.ownsRow 0 77 5 (tick due k).1 (tick due k).2.length (flt pcl (tick due k).2) := by
  unfold tick
  cases hh : alook due k with
  | none => exact own_nil
  | some q => exact h.own (k, q) (alook_mem hh)
theorem Rep.own_of {w : World} {bt bm : Nat} {s : Ns} {due : Due} (h : Rep w bt bm s due) {k : I64} {b : Nat} (hb : (tick due k).1.ownBlock = some b) : (k, tick due k) ∈ due := by
  unfold tick at hb ⊢
  cases hh : alook due k with
  | none => rw [hh] at hb; cases hb
  | some q => exact alook_mem hh

def Ns.add (s : Ns) (c : Cp) : Ns := { s with sent := s.sent + 1, pend := s.pend ++ [c] }
theorem Rep.put {w w1 w2 w3 : World} {bt bm : Nat} {s : Ns} {due : Due} (h : Rep w bt bm s due) (k : I64) {v' : Value} {p : Pc} (hk1 : Kp (ownB (tick due k).1) w w1)
    (hown : w1.ownsRow 0 77 5 v' ((tick due k).2.length + 1) (flt pcl (tick due k).2 ++ pcl p)) (hwh : ∀ g, v'.ownBlock = some g → (tick due k).1.ownBlock = some g ∨ w.heap.size ≤ g) (hby : ByAt w p.a p.cp.bs) (hdue : (p.cp.due : Int) = k.1)
    (hk2 : Kp [bm] w1 w2) (hm2 : MapIs w2 bm iv (fun q : Value × List Pc => q.1) (aput due k (v', (tick due k).2 ++ [p]))) (hk3 : Kp [bt] w2 w3) (hB : Blk w3 bt (.cells (ncl (s.add p.cp) bm).toArray 72)) :
    Rep w3 bt bm (s.add p.cp) (aput due k (v', (tick due k).2 ++ [p])) := by
  have hnd := h.map.nodup
  obtain ⟨es, ec, hmb⟩ := h.map.blk
  have ownT : ∀ z ∈ ownB (tick due k).1, ∃ cs, Blk w z (.cells cs 77) := fun z hz => own_blk (h.own_tick k) (mem_ownB.1 hz)
  have m1 : Blk w1 bm (.map es ec) := hmb.kp hk1 (fun hz => by obtain ⟨cs, hc⟩ := ownT _ hz; exact ne_map hmb hc rfl)
  have b1 : Blk w1 bt (.cells (ncl s bm).toArray 72) := h.blk.kp hk1 (fun hz => by obtain ⟨cs, hc⟩ := ownT _ hz; exact ne_ty (by decide) h.blk hc rfl)
  have hne : bt ≠ bm := ne_map hmb h.blk
  have b2 := b1.kp hk2 (by simpa using hne)
  have cells : ∀ {z : Nat} {cs : Array Value} {T : TypeId}, T ≠ 72 → Blk w1 z (.cells cs T) → Blk w3 z (.cells cs T) := fun {z cs T} hT hz => by
    have n1 := ne_map m1 hz
    have n2 := ne_ty (fun e => hT e.symm) b1 hz
    exact (hz.kp hk2 (by simpa using n1)).kp hk3 (by simpa using n2)
  have ownW : ∀ {v : Value} {n : Nat} {xs : List Value}, w1.ownsRow 0 77 5 v n xs → w3.ownsRow 0 77 5 v n xs := fun {v n xs} ho => by
    refine own_kp (own_kp ho hk2 (fun b hb hm => ?_)) hk3 (fun b hb hm => ?_)
    · obtain ⟨cs, hc⟩ := own_blk ho hb
      exact ne_map m1 hc (by simpa using hm)
    · obtain ⟨cs, hc⟩ := own_blk ho hb
      exact ne_ty (by decide) b1 hc (by simpa using hm)
  have old : ∀ e ∈ due, e.1 ≠ k → ∀ b, e.2.1.ownBlock = some b → b ∉ ownB (tick due k).1 := fun e he hek b hb hm => by
    have hb' := mem_ownB.1 hm
    exact hek (h.sep e he (k, tick due k) (h.own_of hb') b hb hb')
  have byW : ∀ {p : Pc}, ByAt w p.a p.cp.bs → ByAt w3 p.a p.cp.bs := fun {p} hp i u hu => by
    obtain ⟨b, off, cs, e1, e2, e3⟩ := hp i u hu
    refine ⟨b, off, cs, e1, cells (by decide) (e2.kp hk1 (fun hz => ?_)), e3⟩
    obtain ⟨cs', hc⟩ := ownT _ hz
    exact ne_ty (by decide) e2 hc rfl
  have tk : ∀ p ∈ (tick due k).2, ByAt w p.a p.cp.bs := fun p hp => by
    unfold tick at hp
    cases hh : alook due k with
    | none => rw [hh] at hp; cases hp
    | some q => rw [hh] at hp; exact h.byt (k, q) (alook_mem hh) p hp
  have fl : flt pcl (tick due k).2 ++ pcl p = flt pcl ((tick due k).2 ++ [p]) := by simp [flt]
  refine ⟨hB, h.cl, hm2.kp hk3 (by simpa using hne.symm), fun e he => ?_, fun e he e' he' b hb hb' => ?_, fun e he p' hp' => ?_, fun k' => ?_⟩
  · rcases mem_aput hnd he with rfl | ⟨he, hek⟩
    · have := ownW hown
      rw [fl] at this
      simpa using this
    · exact ownW (own_kp (h.own e he) hk1 (old e he hek))
  · have lt : ∀ e ∈ due, ∀ b, e.2.1.ownBlock = some b → b < w.heap.size := fun e he b hb => by
      obtain ⟨cs, hc⟩ := own_blk (h.own e he) hb
      exact hc.lt
    rcases mem_aput hnd he with rfl | ⟨he, hek⟩
    · rcases mem_aput hnd he' with rfl | ⟨he', hek'⟩
      · rfl
      · rcases hwh b hb with h1 | h1
        · exact absurd (mem_ownB.2 h1) (old e' he' hek' b hb')
        · have := lt e' he' b hb'
          omega
    · rcases mem_aput hnd he' with rfl | ⟨he', hek'⟩
      · rcases hwh b hb' with h1 | h1
        · exact absurd (mem_ownB.2 h1) (old e he hek b hb)
        · have := lt e he b hb
          omega
      · exact h.sep e he e' he' b hb hb'
  · rcases mem_aput hnd he with rfl | ⟨he, hek⟩
    · rcases List.mem_append.1 hp' with hp' | hp'
      · exact byW (tk p' hp')
      · rw [List.mem_singleton] at hp'
        subst hp'
        exact byW hby
    · exact byW (h.byt e he p' hp')
  · have hat := h.at_ k'
    rw [alook_put]
    simp only [Ns.add, List.filter_append]
    by_cases hkk : k = k'
    · subst hkk
      rw [if_pos rfl, ← hat]
      have : ((alook due k).map (fun q => q.2)).getD [] = (tick due k).2 := by
        unfold tick
        cases alook due k <;> rfl
      rw [this]
      simp [hdue]
    · rw [if_neg hkk, hat]
      have : ¬ (p.cp.due : Int) = k'.1 := fun e => hkk (Subtype.ext (by rw [← hdue, e]))
      simp [this]
end Go.Proofs.Ytfelaicoedlejaa

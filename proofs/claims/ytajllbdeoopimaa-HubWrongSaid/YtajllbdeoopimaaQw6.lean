/-
  HubWrong answers true for every input, and leaves its arguments as they were. No conditions.
-/
import Derived.Test.YtajllbdeoopimaaQw5
namespace Go.Proofs.Ytajllbdeoopimaa
set_option linter.unusedVariables false
theorem sumA_perm {κ ν : Type} (f : ν → Int) {a b : List (κ × ν)} (h : a.Perm b) : sumA f a = sumA f b := by
  induction h with
  | nil => rfl
  | cons x _ ih => simp only [sumA, ih]
  | swap x y l => simp only [sumA]; omega
  | trans _ _ i1 i2 => exact i1.trans i2
theorem Inv.perm {win : Int} {s : ST} (hi : Inv win s) {l' : Pl} {m' : Mp} (hl : l'.Perm s.l) (hm : m'.Perm s.m) : Inv win ⟨l', m'⟩ := by
  have kl : (l'.map (·.1)).Nodup := (hl.map (·.1)).nodup_iff.2 hi.kl
  have km : (m'.map (·.1)).Nodup := (hm.map (·.1)).nodup_iff.2 hi.km
  have el : ∀ k, alook l' k = alook s.l k := perm_look kl hl
  have em : ∀ k, alook m' k = alook s.m k := perm_look km hm
  refine ⟨kl, km, by rw [hl.length_eq]; exact hi.len, fun k x h => hi.ok k x ?_, fun n r h => ?_, fun k x h y hy => ?_, ?_⟩
  · rw [← el]; exact h
  · have h' : alook s.m n = some r := by rw [← em]; exact h
    exact (hi.pr n r h').sim (fun k x hx => ⟨x, by show alook l' k = some x; rw [el, hx], rfl, rfl⟩)
  · have h' : alook s.l k = some x := by rw [← el]; exact h
    obtain ⟨r, h1, h2⟩ := hi.he k x h' y hy
    exact ⟨r, by show alook m' y.name = some r; rw [em, h1], h2⟩
  · show sumA onL l' = sumA backL l' + sumA passed m'
    rw [sumA_perm onL hl, sumA_perm backL hl, sumA_perm passed hm]
    exact hi.bal
theorem HubE.oth {w w' : World} {bh bs bp ch cs cp : Nat} {win win' : Int} {s t : ST} (hC : HubE w ch cs cp win' t) (hH : HubE w bh bs bp win s) (hk : Kp [bs, bp] w w') (n1 : cs ≠ bs) (n2 : cs ≠ bp) (n3 : cp ≠ bs) (n4 : cp ≠ bp) : HubE w' ch cs cp win' t := by
  obtain ⟨mt, e, hC⟩ := hC
  obtain ⟨ms, -, hH⟩ := hH
  exact ⟨mt, e, hC.other hH.sh hH.pr hk n1 n2 n3 n4⟩
theorem sameB_t {s t : ST} (hl : s.l.Perm t.l) (hm : s.m.Perm t.m) : sameB s t = true := by
  unfold sameB
  rw [permB_t hl, permB_t hm]
  rfl
theorem doS_bad {win : Int} {s : ST} {x : HA} (h : doE win s x ≠ 0 ∨ x.kind = 4) : doS win s x = s := by
  unfold doS
  unfold doE at h
  by_cases e0 : x.kind = 0
  · rw [if_pos e0] at h ⊢
    rw [if_neg (h.resolve_right (by omega))]
  rw [if_neg e0] at h ⊢
  by_cases e1 : x.kind = 1
  · rw [if_pos e1] at h ⊢
    rw [if_neg (h.resolve_right (by omega))]
  rw [if_neg e1] at h ⊢
  by_cases e3 : x.kind = 3
  · rw [if_pos e3] at h
    rw [if_neg (by omega), if_pos e3, if_neg (h.resolve_right (by omega))]
  rw [if_neg e3] at h
  rcases h with h | h
  · exact absurd rfl h
  · rw [if_neg (by omega), if_neg e3]
attribute [local irreducible] CG NG SG Vals Der Row Blk MapIs IterAt chkL DerX DerR
set_option maxHeartbeats 64000000 in
theorem wrong_walk (w : World) (a : Option Addr) (n c : Nat) (l : List HA) (hl : l.length = n) (hS : Sl hac 40 w a l) (hin : ∀ x ∈ l, x.In w) (hn : n ≤ maxLen) (x : HA) (hx : x.In w) : Ret Try.prog 8 #[.slice a n c, hav x] w (.bool true) := by
  refine enter2 Try.func8 rfl Try.ntmps8 rfl ?_
  repeat (first|apply cA|apply cB)
  refine SG.box rfl rfl rfl (by exact rho_of rfl) (fun b3 w0 hk0 hb3 hB3 => ?_)
  have hB3 : Blk w0 b3 (.cells (hac x).toArray 65) := hB3
  have hx0 := hx.kp0 hk0
  have s0 := hk0.size
  have l3 := hB3.lt
  repeat (first|apply cA|apply cB|apply cD|apply cE|refine cK rfl rfl rfl rfl (by first|((first|apply qmv|apply qas)<;>(exact rfl))|fail) ?_)
  refine SG.call rfl rfl rfl (vs := [.slice a n c]) (by repeat' (first | exact True.intro | exact rho_of rfl | refine And.intro ?_ ?_)) ((made_e w0 a n c l hl (hS.kp0 hk0) (fun y hy => (hin y hy).kp0 hk0) hn).mono (fun e w1 hh => ?_))
  obtain ⟨bh, bs, bp, v, he, hk1, hM⟩ := hh
  refine ⟨_, he, ?_⟩
  clear he
  obtain ⟨hH1, ⟨Ld, Pd, ald, apd, cld, cpd, hD⟩, hinv, hml, gh, gs, gp⟩ := hM
  have hv := hD.eq
  subst hv
  generalize madeS l = s at hH1 hinv hml hD
  repeat (first|refine cK rfl rfl rfl rfl (by first|((first|apply qmv|apply qxt)<;>(exact rfl))|fail) ?_)
  refine SG.alloc rfl rfl rfl (fun b4 w2 hk2 hb4 hB4 => ?_)
  repeat (first|refine cK rfl rfl rfl rfl (by first|(apply qas<;>(exact rfl))|fail) ?_)
  refine SG.setAll (l := dhc 5 (.slice ald Ld.length cld) (.slice apd Pd.length cpd)) rfl rfl (by exact rho_of rfl) (by exact rho_of rfl) hB4 rfl rfl rfl (fun w3 hk3 hB4 => ?_)
  have k13 : Kp [] w1 w3 := hk2.trans_new hk3 (new1 (by omega))
  have hH3 := hH1.kp0 k13
  have k03 := hk1.trans k13
  have k3 := hk0.trans k03
  have hB3 := hB3.kp0 k03
  have hx3 := hx0.kp0 k03
  obtain ⟨hh3, hs3, hp3⟩ := hH3.lts
  clear hD hB4 hk2 hk3 hk1 hH1
  have hl16 := hinv.len
  repeat (first|apply cA|apply cB|apply cD|apply cE|refine cK rfl rfl rfl rfl (by first|((first|apply qep|apply qmv|apply qep)<;>(exact rfl))|fail) ?_)
  refine cX rfl (by exact rho_of rfl) rfl ?_
  repeat (first|apply cA|apply cB|apply cE|apply cF|refine cK rfl rfl rfl rfl (by first|(apply qmv<;>(exact rfl))|fail) ?_)
  refine SG.call rfl rfl rfl (vs := [.pointer (some ⟨bh, 0, none⟩)]) (by repeat' (first | exact True.intro | exact rho_of rfl | refine And.intro ?_ ?_)) ((clone_e hH3 (by omega)).mono (fun e w4 hh => ?_))
  obtain ⟨ch, cs, cp, l', he, hk4, gch, gcs, gcp, hC4, hperm⟩ := hh
  refine ⟨_, he, ?_⟩
  clear he
  have hH4 := hH3.kp0 hk4
  have k4 := k3.trans hk4
  have hB3 := hB3.kp0 hk4
  have hR3 : Row w4 b3 0 (hac x) := Row.all hB3 rfl
  have s4 := hk4.size
  repeat (first|apply cA|apply cB|apply cD|apply cE|refine cK rfl rfl rfl rfl (by first|((first|apply qep|apply qmv|apply qas|apply qep)<;>(exact rfl))|fail) ?_)
  refine cX rfl (by exact rho_of rfl) rfl ?_
  repeat (first|apply cA|apply cB|apply cE|apply cF|refine cK rfl rfl rfl rfl (by first|((first|apply qmv|apply qla)<;>(first|exact rfl|assumption|exact List.not_mem_nil|apply hac_length))|fail) ?_)
  refine SG.call rfl rfl rfl (vs := [.pointer (some ⟨bh, 0, none⟩), hav x]) (by repeat' (first | exact True.intro | exact rho_of rfl | refine And.intro ?_ ?_)) ((do_e hH4 hinv (by omega) ⟨by decide, by decide⟩ x (hx3.kp0 hk4)).mono (fun e w5 hh => ?_))
  obtain ⟨v5, he, -, hk5, hH5⟩ := hh
  refine ⟨_, he, ?_⟩
  clear he hR3
  have hC5 := hC4.oth hH4 hk5 (by omega) (by omega) (by omega) (by omega)
  have hB5 := hH4.blk hB3 hk5
  have k5 : Kp [] w w5 := k4.trans_new hk5 (new2 (by omega) (by omega))
  have i2 : Inv 5 (⟨l', s.m⟩ : ST) := hinv.perm hperm (List.Perm.refl _)
  obtain ⟨r0, -⟩ := hac_rows hB5
  have hfin : ∀ {w' : World}, Kp [] w5 w' → (Ending.returned (.bool true) = .returned (.bool true) ∧ Kp [] w w') := fun hk => ⟨rfl, k5.trans hk⟩
  by_cases e4 : x.kind = 4
  · rw [doS_bad (Or.inr e4)] at hH5
    repeat (first|apply cA|apply cB|apply cD|apply cE|refine cK rfl rfl rfl rfl (by first|((first|apply qei|apply qmv|apply qas|apply qlc|apply qfa|apply qei|apply qxt)<;>(first|exact rfl|assumption|exact dct (by first|assumption|omega)|exact List.not_mem_nil|fail))|fail) ?_)
    refine cV rfl (by exact rho_of rfl) rfl ?_
    repeat (first|apply cA|apply cB)
    refine SG.ret rfl rfl rfl (vs := []) (by repeat' (first | exact True.intro | exact rho_of rfl | refine And.intro ?_ ?_)) (known_spec w5) (fun w6 hk6 => ?_)
    repeat (first|refine cK rfl rfl rfl rfl (by first|(apply qmv<;>(exact rfl))|fail) ?_)
    refine SG.ret rfl rfl rfl (vs := [.pointer (some ⟨bh, 0, none⟩), .pointer (some ⟨ch, 0, none⟩)]) (v := .bool true) (by repeat' (first | exact True.intro | exact rho_of rfl | refine And.intro ?_ ?_)) (by
      have := same_e (hH5.kp0 hk6) (hC5.kp0 hk6) hinv i2 ⟨by decide, by decide⟩
      rwa [sameB_t (s := s) (t := ⟨l', s.m⟩) hperm.symm (List.Perm.refl _)] at this) (fun w7 hk7 => ?_)
    repeat (first|apply cD|apply cE|apply cH|apply cJ|refine cK rfl rfl rfl rfl (by first|((first|apply qas|apply qpk)<;>(exact rfl))|fail) ?_)
    refine ret1 (Or.inl rfl) Try.results8 (by first | exact ResV.tmp rfl | exact ResV.agg rfl rfl (by assumption) (by first | exact dc_length _ | exact nc_length _ | exact rc_length _ _ _ | exact ec_length _ | exact dl_length _ _ _ _ | rfl) | exact ResV.cell rfl rfl (by assumption)) ?_
    exact hfin (hk6.trans hk7)
  · by_cases ez : doE 5 s x = 0
    · generalize doE 5 s x = z at ez
      repeat (first|apply cA|apply cB|apply cD|apply cE|refine cK rfl rfl rfl rfl (by first|((first|apply qei|apply qmv|apply qas|apply qlc|apply qfa|apply qei|apply qxt)<;>(first|exact rfl|assumption|exact dcf (by first|assumption|omega)|exact List.not_mem_nil|fail))|fail) ?_)
      refine cX rfl (by exact rho_of rfl) rfl ?_
      repeat (first|apply cA|apply cB|apply cE|apply cF)
      refine SG.ret rfl rfl rfl (vs := []) (by repeat' (first | exact True.intro | exact rho_of rfl | refine And.intro ?_ ?_)) (known_spec w5) (fun w6 hk6 => ?_)
      repeat (first | first|apply cD|apply cE|apply cH|refine cK rfl rfl rfl rfl (by first|((first|apply qei|apply qmv|apply qas|apply qpk|apply qei)<;>(first|exact rfl|exact dct (by first|assumption|omega)|fail))|fail) ?_ | refine cM rfl rfl ?_)
      refine ret1 (Or.inl rfl) Try.results8 (by first | exact ResV.tmp rfl | exact ResV.agg rfl rfl (by assumption) (by first | exact dc_length _ | exact nc_length _ | exact rc_length _ _ _ | exact ec_length _ | exact dl_length _ _ _ _ | rfl) | exact ResV.cell rfl rfl (by assumption)) ?_
      exact hfin hk6
    · rw [doS_bad (Or.inl ez)] at hH5
      generalize doE 5 s x = z at ez
      repeat (first|apply cA|apply cB|apply cD|apply cE|refine cK rfl rfl rfl rfl (by first|((first|apply qei|apply qmv|apply qas|apply qlc|apply qfa|apply qei|apply qxt)<;>(first|exact rfl|assumption|exact dcf (by first|assumption|omega)|exact List.not_mem_nil|fail))|fail) ?_)
      refine cX rfl (by exact rho_of rfl) rfl ?_
      repeat (first|apply cA|apply cB|apply cE|apply cF)
      refine SG.ret rfl rfl rfl (vs := []) (by repeat' (first | exact True.intro | exact rho_of rfl | refine And.intro ?_ ?_)) (known_spec w5) (fun w6 hk6 => ?_)
      repeat (first|refine cK rfl rfl rfl rfl (by first|((first|apply qei|apply qmv|apply qei)<;>(first|exact rfl|exact dcf (by first|assumption|omega)|fail))|fail) ?_)
      refine SG.ret rfl rfl rfl (vs := [.pointer (some ⟨bh, 0, none⟩), .pointer (some ⟨ch, 0, none⟩)]) (v := .bool true) (by repeat' (first | exact True.intro | exact rho_of rfl | refine And.intro ?_ ?_)) (by
        have := same_e (hH5.kp0 hk6) (hC5.kp0 hk6) hinv i2 ⟨by decide, by decide⟩
        rwa [sameB_t (s := s) (t := ⟨l', s.m⟩) hperm.symm (List.Perm.refl _)] at this) (fun w7 hk7 => ?_)
      have k67 := hk6.trans hk7
      repeat (first|refine cK rfl rfl rfl rfl (by first|(apply qmv<;>(exact rfl))|fail) ?_)
      refine SG.ret rfl rfl rfl (vs := [.pointer (some ⟨ch, 0, none⟩), .pointer (some ⟨bh, 0, none⟩)]) (v := .bool true) (by repeat' (first | exact True.intro | exact rho_of rfl | refine And.intro ?_ ?_)) (by
        have := same_e (hC5.kp0 k67) (hH5.kp0 k67) i2 hinv ⟨by decide, by decide⟩
        rwa [sameB_t (s := ⟨l', s.m⟩) (t := s) hperm (List.Perm.refl _)] at this) (fun w8 hk8 => ?_)
      repeat (first|apply cD|apply cE|apply cH|refine cK rfl rfl rfl rfl (by first|((first|apply qas|apply qpk)<;>(exact rfl))|fail) ?_)
      refine ret1 (Or.inl rfl) Try.results8 (by first | exact ResV.tmp rfl | exact ResV.agg rfl rfl (by assumption) (by first | exact dc_length _ | exact nc_length _ | exact rc_length _ _ _ | exact ec_length _ | exact dl_length _ _ _ _ | rfl) | exact ResV.cell rfl rfl (by assumption)) ?_
      exact hfin (k67.trans hk8)
end Go.Proofs.Ytajllbdeoopimaa
namespace Go.Proofs.Ytajllbdeoopimaa
open Go.ChangeShapes Go.WideShapes Go.ChangeAt Go.RowKit
set_option linter.unusedVariables false
theorem cellsE : Try.prog.cellsOf 24 = 8 := by kernel_rfl
theorem cellsH : Try.prog.cellsOf 104 = 11 := by kernel_rfl
theorem cellsS : Try.prog.cellsOf 61 = 1 := by kernel_rfl
theorem cellsZ : Try.prog.cellsOf 31 = 2 := by kernel_rfl
theorem cellsP : Try.prog.cellsOf 63 = 12 := by kernel_rfl
theorem cellsA : Try.prog.cellsOf 65 = 40 := by kernel_rfl
theorem fit_of {n : Int} (h : (Lit.int .i64 n).wf = true) : fitZ n := i64_of h
/-- The elements of a slice, by how one is read. -/
theorem elems_of {H α : Type} {en : TypeId × Value → H} {P : Program} {w : World} {e : TypeId} {a : Option Addr} {n : Nat} (enc : α → List Value) (p : α → Prop) (h : SlOf en P w e a n)
    (rd : ∀ cs fuel y, DataW.trod en P w 0 (fun _ => true) true fuel e cs = some y → ∃ x : α, cs = enc x ∧ p x) : ∃ l : List α, l.length = n ∧ Sl enc (P.cellsOf e) w a l ∧ ∀ x ∈ l, p x := by
  have key : ∀ i : _root_.Fin n, ∃ x : α, (∃ b off, a = some ⟨b, off, none⟩ ∧ Row w b (off + i.1 * P.cellsOf e) (enc x)) ∧ p x := by
    intro i
    obtain ⟨b, off, cs, fuel, y, h1, h2, h3, h4⟩ := h.row i.1 i.2
    obtain ⟨x, rfl, hp⟩ := rd cs fuel y h4
    exact ⟨x, ⟨b, off, h1, h2⟩, hp⟩
  refine ⟨List.ofFn (fun i => Classical.choose (key i)), by simp, fun i x hx => ?_, fun x hx => ?_⟩
  · rw [List.getElem?_ofFn] at hx
    split at hx
    · rename_i hi
      cases hx
      exact (Classical.choose_spec (key ⟨i, hi⟩)).1
    · cases hx
  · obtain ⟨i, rfl⟩ := List.mem_ofFn.1 hx
    exact (Classical.choose_spec (key i)).2
theorem cut_drop {α : Type} (l : List α) (a n : Nat) : l.drop a = (l.drop a).take n ++ l.drop (a + n) := by
  rw [← List.drop_drop, List.take_append_drop]
theorem sl_cell {H : Type} {enc : TypeId × Value → H} {P : Program} {w : World} {t e : TypeId} {cs : List Value} {fuel : Nat} {y : DataW H × List MemPlace} (ht : P.underlying t = some (.slice e)) (he : 0 < P.cellsOf e)
    (hf : DataW.trod enc P w 0 (fun _ => true) true fuel t cs = some y) : ∃ a n c, cs = [.slice a n c] ∧ n ≤ c ∧ c ≤ maxLen ∧ SlOf enc P w e a n := by
  rcases Go.Deep.open_slice ht hf with ⟨hc, _⟩ | ⟨a, len, cap, m, n, D, Pl, hc, _, hl, hm, hmm, _, hall⟩
  · exact ⟨none, 0, 0, hc, by omega, by omega, ⟨fun i hi => by omega⟩⟩
  · subst hc
    have hmc : m = cap := by rw [hmm]; simp
    refine ⟨some a, len, cap, rfl, hl, hm, ⟨fun i hi => ?_⟩⟩
    obtain ⟨cs0, h10, _⟩ := hall 0 (by omega)
    obtain ⟨b, off, ha, _, _⟩ := row_of_cells h10 he
    have ha' : a = ⟨b, off, none⟩ := by simpa [Addr.add] using ha
    subst ha'
    obtain ⟨cs, h1, h2⟩ := hall i (by omega)
    rw [add_none] at h1
    obtain ⟨b2, off2, hb2, hr, hlen⟩ := row_of_cells h1 he
    cases hb2
    exact ⟨b, off, cs, n, _, rfl, hr, hlen, h2⟩
set_option maxRecDepth 100000 in
theorem hdc_of {H : Type} {enc : TypeId × Value → H} {w : World} {cs : List Value} {fuel : Nat} {y : DataW H × List MemPlace} (h : DataW.trod enc Try.prog w 0 (fun _ => true) true fuel 104 cs = some y) : ∃ o : Hd, cs = hc o := by
  obtain ⟨xs, m, _, _, hl, hlen, hf⟩ := DataW.trod_struct Try.underlying104 h
  rw [cellsH] at hl
  match xs, hlen with
  | [y0, y1, y2, y3], _ =>
    have h0 : DataW.trod enc Try.prog w 0 (fun _ => true) true m 24 ((cs.drop 0).take (Try.prog.cellsOf 24)) = some y0 := hf 0 _ rfl
    have h1 : DataW.trod enc Try.prog w 0 (fun _ => true) true m 3 ((cs.drop 8).take (Try.prog.cellsOf 3)) = some y1 := hf 1 _ rfl
    have h2 : DataW.trod enc Try.prog w 0 (fun _ => true) true m 3 ((cs.drop 9).take (Try.prog.cellsOf 3)) = some y2 := hf 2 _ rfl
    have h3 : DataW.trod enc Try.prog w 0 (fun _ => true) true m 3 ((cs.drop 10).take (Try.prog.cellsOf 3)) = some y3 := hf 3 _ rfl
    rw [cellsE] at h0
    rw [cells3] at h1 h2 h3
    obtain ⟨d0, e0⟩ := arr_bytes Try.underlying24 Try.underlying5 cells5 cellsE h0
    obtain ⟨n1, e1, _, _⟩ := DataW.trod_int Try.underlying3 h1
    obtain ⟨n2, e2, _, _⟩ := DataW.trod_int Try.underlying3 h2
    obtain ⟨n3, e3, _, _⟩ := DataW.trod_int Try.underlying3 h3
    refine ⟨⟨d0, n1, n2, n3⟩, ?_⟩
    have hd : cs.drop (10 + 1) = [] := List.drop_of_length_le (by omega)
    have e : cs = cs.drop 0 := rfl
    rw [e, cut_drop cs 0 8, e0, cut_drop cs (0 + 8) 1, e1, cut_drop cs (0 + 8 + 1) 1, e2, cut_drop cs (0 + 8 + 1 + 1) 1, e3, hd]
    rfl
theorem hds_of {H : Type} {enc : TypeId × Value → H} {w : World} {a : Option Addr} {n : Nat} (h : SlOf enc Try.prog w 104 a n) : ∃ l : List Hd, l.length = n ∧ Sl hc 11 w a l := by
  obtain ⟨l, h1, h2, h3⟩ := elems_of hc (fun _ => True) h (fun cs fuel y hy => by
    obtain ⟨o, e⟩ := hdc_of hy
    exact ⟨o, e, trivial⟩)
  rw [cellsH] at h2
  exact ⟨l, h1, h2⟩
set_option maxRecDepth 100000 in
theorem z2_of {H : Type} {enc : TypeId × Value → H} {w : World} {cs : List Value} {fuel : Nat} {y : DataW H × List MemPlace} (h : DataW.trod enc Try.prog w 0 (fun _ => true) true fuel 31 cs = some y) : ∃ p q : Int, cs = [.int .i64 p, .int .i64 q] ∧ fitZ p ∧ fitZ q := by
  obtain ⟨xs, m, _, _, hl, hxl, hat⟩ := DataW.trod_array Try.underlying31 h
  rw [cellsZ] at hl
  match cs, hl with
  | [c0, c1], _ =>
    have h0 := hat 0 (by omega)
    have h1 := hat 1 (by omega)
    rw [cells3] at h0 h1
    rw [List.getElem?_eq_getElem (by omega)] at h0 h1
    obtain ⟨n0, e0, _, w0⟩ := DataW.trod_int Try.underlying3 h0
    obtain ⟨n1, e1, _, w1⟩ := DataW.trod_int Try.underlying3 h1
    simp at e0 e1
    exact ⟨n0, n1, by rw [e0, e1], fit_of w0, fit_of w1⟩
set_option maxRecDepth 100000 in
theorem pur_of {H : Type} {enc : TypeId × Value → H} {w : World} {cs : List Value} {fuel : Nat} {y : DataW H × List MemPlace} (h : DataW.trod enc Try.prog w 0 (fun _ => true) true fuel 63 cs = some y) : ∃ (p : Pu) (a : Option Addr) (c : Nat), cs = pc p (.slice a p.held.length c) ∧ Sl hc 11 w a p.held ∧ p.held.length ≤ c ∧ c ≤ maxLen ∧ fitZ p.h0 ∧ fitZ p.h1 := by
  obtain ⟨xs, m, _, _, hl, hlen, hf⟩ := DataW.trod_struct Try.underlying63 h
  rw [cellsP] at hl
  match xs, hlen with
  | [y0, y1, y2, y3], _ =>
    have h0 : DataW.trod enc Try.prog w 0 (fun _ => true) true m 24 ((cs.drop 0).take (Try.prog.cellsOf 24)) = some y0 := hf 0 _ rfl
    have h1 : DataW.trod enc Try.prog w 0 (fun _ => true) true m 3 ((cs.drop 8).take (Try.prog.cellsOf 3)) = some y1 := hf 1 _ rfl
    have h2 : DataW.trod enc Try.prog w 0 (fun _ => true) true m 31 ((cs.drop 9).take (Try.prog.cellsOf 31)) = some y2 := hf 2 _ rfl
    have h3 : DataW.trod enc Try.prog w 0 (fun _ => true) true m 61 ((cs.drop 11).take (Try.prog.cellsOf 61)) = some y3 := hf 3 _ rfl
    rw [cellsE] at h0
    rw [cells3] at h1
    rw [cellsZ] at h2
    rw [cellsS] at h3
    obtain ⟨d0, e0⟩ := arr_bytes Try.underlying24 Try.underlying5 cells5 cellsE h0
    obtain ⟨n1, e1, _, _⟩ := DataW.trod_int Try.underlying3 h1
    obtain ⟨x, z, e2, f1, f2⟩ := z2_of h2
    obtain ⟨a, n, c, e3, hn, hc', hs⟩ := sl_cell Try.underlying61 (by rw [cellsH]; omega) h3
    obtain ⟨l, hll, hS⟩ := hds_of hs
    subst hll
    refine ⟨⟨d0, n1, x, z, l⟩, a, c, ?_, hS, hn, hc', f1, f2⟩
    have hd : cs.drop (11 + 1) = [] := List.drop_of_length_le (by omega)
    have e : cs = cs.drop 0 := rfl
    rw [e, cut_drop cs 0 8, e0, cut_drop cs (0 + 8) 1, e1, cut_drop cs (0 + 8 + 1) 2, e2, cut_drop cs (0 + 8 + 1 + 2) 1, e3, hd]
    rfl
set_option maxRecDepth 100000 in
theorem hac_of {H : Type} {enc : TypeId × Value → H} {w : World} {cs : List Value} {fuel : Nat} {y : DataW H × List MemPlace} (h : DataW.trod enc Try.prog w 0 (fun _ => true) true fuel 65 cs = some y) : ∃ x : HA, cs = hac x ∧ x.In w := by
  obtain ⟨xs, m, _, _, hl, hlen, hf⟩ := DataW.trod_struct Try.underlying65 h
  rw [cellsA] at hl
  match xs, hlen with
  | [y0, y1, y2, y3, y4, y5, y6, y7], _ =>
    have h0 : DataW.trod enc Try.prog w 0 (fun _ => true) true m 3 ((cs.drop 0).take (Try.prog.cellsOf 3)) = some y0 := hf 0 _ rfl
    have h1 : DataW.trod enc Try.prog w 0 (fun _ => true) true m 3 ((cs.drop 1).take (Try.prog.cellsOf 3)) = some y1 := hf 1 _ rfl
    have h2 : DataW.trod enc Try.prog w 0 (fun _ => true) true m 24 ((cs.drop 2).take (Try.prog.cellsOf 24)) = some y2 := hf 2 _ rfl
    have h3 : DataW.trod enc Try.prog w 0 (fun _ => true) true m 24 ((cs.drop 10).take (Try.prog.cellsOf 24)) = some y3 := hf 3 _ rfl
    have h4 : DataW.trod enc Try.prog w 0 (fun _ => true) true m 24 ((cs.drop 18).take (Try.prog.cellsOf 24)) = some y4 := hf 4 _ rfl
    have h5 : DataW.trod enc Try.prog w 0 (fun _ => true) true m 3 ((cs.drop 26).take (Try.prog.cellsOf 3)) = some y5 := hf 5 _ rfl
    have h6 : DataW.trod enc Try.prog w 0 (fun _ => true) true m 3 ((cs.drop 27).take (Try.prog.cellsOf 3)) = some y6 := hf 6 _ rfl
    have h7 : DataW.trod enc Try.prog w 0 (fun _ => true) true m 63 ((cs.drop 28).take (Try.prog.cellsOf 63)) = some y7 := hf 7 _ rfl
    rw [cellsE] at h2 h3 h4
    rw [cells3] at h0 h1 h5 h6
    rw [cellsP] at h7
    obtain ⟨n0, e0, _, w0⟩ := DataW.trod_int Try.underlying3 h0
    obtain ⟨n1, e1, _, w1⟩ := DataW.trod_int Try.underlying3 h1
    obtain ⟨d2, e2⟩ := arr_bytes Try.underlying24 Try.underlying5 cells5 cellsE h2
    obtain ⟨d3, e3⟩ := arr_bytes Try.underlying24 Try.underlying5 cells5 cellsE h3
    obtain ⟨d4, e4⟩ := arr_bytes Try.underlying24 Try.underlying5 cells5 cellsE h4
    obtain ⟨n5, e5, _, w5⟩ := DataW.trod_int Try.underlying3 h5
    obtain ⟨n6, e6, _, w6⟩ := DataW.trod_int Try.underlying3 h6
    obtain ⟨p, a, c, e7, hS, hn, hc', f1, f2⟩ := pur_of h7
    refine ⟨⟨n0, n1, d2, d3, d4, n5, n6, p, a, c⟩, ?_, ⟨hS, hn, Nat.le_trans hc' (Nat.le_of_eq rfl), fit_of w0, fit_of w1, fit_of w5, fit_of w6, f1, f2⟩⟩
    have hd : cs.drop (28 + 12) = [] := List.drop_of_length_le (by omega)
    have e : cs = cs.drop 0 := rfl
    rw [e, cut_drop cs 0 1, e0, cut_drop cs (0 + 1) 1, e1, cut_drop cs (0 + 1 + 1) 8, e2, cut_drop cs (0 + 1 + 1 + 8) 8, e3, cut_drop cs (0 + 1 + 1 + 8 + 8) 8, e4, cut_drop cs (0 + 1 + 1 + 8 + 8 + 8) 1, e5, cut_drop cs (0 + 1 + 1 + 8 + 8 + 8 + 1) 1, e6, cut_drop cs (0 + 1 + 1 + 8 + 8 + 8 + 1 + 1) 12, e7, hd]
    simp [hac, HA.s]
theorem acts_of {H : Type} {enc : TypeId × Value → H} {w : World} {a : Option Addr} {n : Nat} (h : SlOf enc Try.prog w 65 a n) : ∃ l : List HA, l.length = n ∧ Sl hac 40 w a l ∧ ∀ x ∈ l, x.In w := by
  obtain ⟨l, h1, h2, h3⟩ := elems_of hac (fun x => x.In w) h (fun cs fuel y hy => hac_of hy)
  rw [cellsA] at h2
  exact ⟨l, h1, h2, h3⟩
theorem act_of {H : Type} {enc : TypeId × Value → H} {w : World} {cs : Array Value} {d : DataW H} {ps : List MemPlace} (h : DataW.Trod enc Try.prog w 0 (fun _ => true) true 65 (.agg cs) d ps) : ∃ x : HA, cs = (hac x).toArray ∧ x.In w := by
  obtain ⟨fuel, hf⟩ := h
  obtain ⟨o, e, hi⟩ := hac_of hf
  refine ⟨o, ?_, hi⟩
  have : cs.toList = hac o := by simpa [Value.cells] using e
  exact Array.toList_inj.1 (by simpa using this)
end Go.Proofs.Ytajllbdeoopimaa

namespace Go.Proofs.Ytajllbdeoopimaa
open Go.ChangeShapes Go.WideShapes Go.ChangeAt Go.RowKit
set_option linter.unusedVariables false
set_option maxRecDepth 100000 in
theorem hubWrong_lifted (os : Os) (started : os.Started) (H : Type) (enc : TypeId × Value → H) :
    ReturnsInHanded {} Try.checked os 8 .any (Rows.hubWrongSpec.pre6 enc Try.prog Try.f8 Rows.hubWrongRow.domain false) (Rows.hubWrongSpec.post enc Try.prog Try.f8 false true false false) := by
  refine returnsInHanded_of_change (C := Try.checked) own started (by kernel_rfl) Try.func8
    (ChangeSpec.witness6 (enc := enc) (C := Try.checked) false ⟨#[], #[.slice none 0 0, .agg #[.int .i64 0, .int .i64 0, .int .u8 0, .int .u8 0, .int .u8 0, .int .u8 0, .int .u8 0, .int .u8 0, .int .u8 0, .int .u8 0, .int .u8 0, .int .u8 0, .int .u8 0, .int .u8 0, .int .u8 0, .int .u8 0, .int .u8 0, .int .u8 0, .int .u8 0, .int .u8 0, .int .u8 0, .int .u8 0, .int .u8 0, .int .u8 0, .int .u8 0, .int .u8 0, .int .i64 0, .int .i64 0, .int .u8 0, .int .u8 0, .int .u8 0, .int .u8 0, .int .u8 0, .int .u8 0, .int .u8 0, .int .u8 0, .int .i64 0, .int .i64 0, .int .i64 0, .slice none 0 0]], []⟩ 8 (by kernel_rfl) (by kernel_rfl) (by kernel_rfl) (by kernel_rfl)) ?_
  intro W base args ds gs before hval0 hW hcnd _
  have hval : ∀ (j : Nat) t v, Try.f8.params[j]? = some t → args[j]? = some v → Value.okWide Try.prog W .any base t v := hval0
  have hW' : DataW.Whole enc Try.prog Try.f8.params.toList Rows.hubWrongSpec.vars false W args.toList ds gs before := hW
  obtain ⟨p, q, hA0, hV, rfl, hfz, hnd⟩ := hW
  have hA : DataW.TrodAll enc Try.prog W 0 (fun _ => true) true Try.f8.params.toList args.toList ds p := hA0
  rw [Try.params8] at hA hval
  obtain ⟨v0, v1, d0, d1, p0, p1, rfl, rfl, rfl, h0, h1⟩ := trodAll_two hA
  obtain ⟨a0, n0, c0, rfl, hn0, hc0, hs0⟩ := open_sl Try.underlying46 (by rw [cellsA]; omega) (hval 0 46 v0 rfl rfl) h0
  obtain ⟨l0, hl0, hS0, hin0⟩ := acts_of hs0
  obtain ⟨cs1, rfl, _⟩ := okWide_struct Try.underlying65 (hval 1 65 v1 rfl rfl)
  obtain ⟨x1, rfl, fx1⟩ := act_of h1
  refine (wrong_walk W a0 n0 c0 l0 hl0 hS0 hin0 (Nat.le_trans hn0 hc0) x1 fx1).mono fun e W' ⟨he, hk⟩ => ⟨_, he, ?_⟩
  exact law_post laidOut (by rw [Try.params8]; exact of_decide_eq_true (by kernel_rfl)) rfl hW' rfl (by kernel_rfl) Try.underlying4 hk
theorem hubWrong_holds : Rows.HubWrongSaid :=
  OpenClaim.holds_of_wide 8 Try.f8 rfl rfl rfl rfl rfl rfl rfl ⟨rfl, rfl, rfl, rfl, rfl⟩ rfl rfl rfl rfl rfl (by kernel_rfl) Try.func8 (by kernel_rfl)
    (of_decide_eq_true (by kernel_rfl)) (by unfold Func.isWrapper; first | (rw [if_pos (by decide +kernel)]; kernel_rfl) | (rw [if_neg (by decide +kernel)]; exact ⟨rfl, rfl⟩))
    (fun os started H enc _ => hubWrong_lifted os started H enc)
end Go.Proofs.Ytajllbdeoopimaa

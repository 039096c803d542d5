/- New, At, Stack; the law's stack. -/
import Derived.Test.YtekepfpkihnodaaA8
import Derived.Test.YtekepfpkihnodaaA9
set_option linter.unusedVariables false
set_option linter.unusedSimpArgs false
namespace Go.Proofs.Ytekepfpkihnodaa
open Go.RowKit
attribute [local irreducible] X RL W Ctr
theorem f_at (fb : Nat) (c0 c1 c3 c4 c5 : Value) (pc : Int) (w : World) (hf : w.heap[fb]? = some (cel 53 [c0, c1, .int .i64 pc, c3, c4, c5])) :
    Ctr Try.prog 16 [.pointer (some ⟨fb, 0, none⟩)] w [] fun v _ => v = .int .i64 pc := by
  have e1 : w.cell? ⟨fb, 0 + 2, none⟩ = some (.int .i64 pc) := by rw [cell_entry hf]; rfl
  refine Ctr.intro0 (n := 9) Try.func16 rfl Try.ntmps16 (Nat.le_of_ble_eq_true rfl) ?_
  refine X.seq ?_
  refine X.region rfl ?_
  refine RL.assign rfl ?_
  refine RL.nil ?_
  refine X.seq ?_
  refine X.seq ?_
  refine X.region rfl ?_
  refine RL.move rfl ?_
  refine RL.eqP rfl Try.underlying22 rfl rfl rfl ?_
  refine RL.nil ?_
  refine X.cond_f rfl ?_
  refine X.skip ?_
  refine X.seq ?_
  refine X.region rfl ?_
  refine RL.move rfl ?_
  refine RL.nilCheck rfl rfl ?_
  refine RL.fieldAddr rfl fd53_2 rfl ?_
  refine RL.loadI rfl sc3 rfl e1 (by simp) ?_
  refine RL.assign rfl ?_
  refine RL.nil ?_
  refine X.ret ?_
  refine ret1 rfl ?_
  show (_ : Value) = _
  rfl
theorem f_at0 (w : World) : Ctr Try.prog 16 [.pointer none] w [] fun v _ => v = .int .i64 0 := by
  refine Ctr.intro0 (n := 9) Try.func16 rfl Try.ntmps16 (Nat.le_of_ble_eq_true rfl) ?_
  refine X.seq ?_
  refine X.region rfl ?_
  refine RL.assign rfl ?_
  refine RL.nil ?_
  refine X.seq ?_
  refine X.seq ?_
  refine X.region rfl ?_
  refine RL.move rfl ?_
  refine RL.eqP rfl Try.underlying22 rfl rfl rfl ?_
  refine RL.nil ?_
  refine X.cond_t rfl ?_
  refine X.seq ?_
  refine X.region rfl ?_
  refine RL.assign rfl ?_
  refine RL.nil ?_
  refine X.ret ?_
  refine ret1 rfl ?_
  show (_ : Value) = _
  rfl
theorem f_new (l : List Ins) (hlen : l.length ≤ 1000) (A : Option Addr) (c : Nat) (w : World) (hrd : Rd w A (icells l)) (hv : Valid l 8) (arg : Int) :
    Ctr Try.prog 8 [.slice A l.length c, .int .i64 arg] w [] fun v L => ∃ fb A2 cp2 Lr2, v = .tuple #[.pointer (some ⟨fb, 0, none⟩), .int .i64 0] ∧ Row 27 3 (.slice A2 l.length cp2) (icells l) Lr2 ∧ ([(fb, cel 53 [.slice A2 l.length cp2, .int .i64 arg, .int .i64 0, .slice none 0 0, .bool false, .bool false])] ++ Lr2).Sublist L := by
  have hl := hv.len
  have hrd1 := hrd
  refine Ctr.intro0 (n := 23) Try.func8 rfl Try.ntmps8 (Nat.le_of_ble_eq_true rfl) ?_
  refine X.seq ?_
  refine X.region rfl ?_
  refine RL.assign rfl ?_
  refine RL.assign rfl ?_
  refine RL.nil ?_
  refine X.seq ?_
  refine X.seq ?_
  refine X.region rfl ?_
  refine RL.move rfl ?_
  refine RL.fn0 rfl rfl rfl en17 (fun w hw => (f_check l hlen A c w (hrd1.st0 hw) 8).mono (fun v L h => (by rw [hv.check] at h; exact h : v = .tuple #[.int .i64 (mostP l (hts l 8 l.length)), .int .i64 0, .int .i64 0]))) rfl ?_
  rintro _ _ rfl
  refine RL.move rfl ?_
  refine RL.extract rfl rfl rfl ?_
  refine RL.extract rfl rfl rfl ?_
  refine RL.extract rfl rfl rfl ?_
  refine RL.assign rfl ?_
  refine RL.assign rfl ?_
  refine RL.assign rfl ?_
  refine RL.nil ?_
  refine X.seq ?_
  refine X.region rfl ?_
  refine RL.move rfl ?_
  refine RL.cmp_f rfl rfl rfl rfl (by show ¬ ((_ : Int) ≠ _); omega) ?_
  refine RL.nil ?_
  refine X.cond_f rfl ?_
  refine X.skip ?_
  refine X.seq ?_
  refine X.region rfl ?_
  refine RL.move rfl ?_
  refine RL.fn0 rfl rfl rfl en18 (fun w hw => (f_cloneI l hlen A c w (hrd1.st0 hw) (by omega))) rfl ?_
  rintro _ _ ⟨A2, cp2, Lr2, rfl, hr2, hs2⟩
  refine RL.drop (L' := Lr2) rfl (hs2.trans (List.sublist_append_left _ _)) ?_
  refine RL.move rfl ?_
  refine RL.bldC (vs := [(0, .slice A2 l.length cp2), (1, .int .i64 arg)]) (cells := [.slice A2 l.length cp2, .int .i64 arg, .int .i64 0, .slice none 0 0, .bool false, .bool false]) rfl rfl (fun w => by kernel_rfl) ?_
  refine RL.boxA rfl rfl rfl ?_
  intro fb hfb
  dsimp only at hfb
  refine RL.assign rfl ?_
  refine RL.assign rfl ?_
  refine RL.nil ?_
  refine X.ret ?_
  refine ret2 rfl ?_
  exact ⟨fb, A2, cp2, Lr2, rfl, hr2, List.Sublist.refl _⟩
theorem f_newx (l : List Ins) (hlen : l.length ≤ 1000) (A : Option Addr) (c : Nat) (w : World) (hrd : Rd w A (icells l)) (hv : (heightP l 8).2.2 ≠ 0) (arg : Int) :
    Ctr Try.prog 8 [.slice A l.length c, .int .i64 arg] w [] fun v L => v = .tuple #[.pointer none, .int .i64 (heightP l 8).2.2] := by
  have hrd1 := hrd
  refine Ctr.intro0 (n := 23) Try.func8 rfl Try.ntmps8 (Nat.le_of_ble_eq_true rfl) ?_
  refine X.seq ?_
  refine X.region rfl ?_
  refine RL.assign rfl ?_
  refine RL.assign rfl ?_
  refine RL.nil ?_
  refine X.seq ?_
  refine X.seq ?_
  refine X.region rfl ?_
  refine RL.move rfl ?_
  refine RL.fn0 rfl rfl rfl en17 (fun w hw => (f_check l hlen A c w (hrd1.st0 hw) 8).mono (fun v L h => (by rw [checkP_err hv] at h; exact h : v = .tuple #[.int .i64 0, .int .i64 (heightP l 8).2.1, .int .i64 (heightP l 8).2.2]))) rfl ?_
  rintro _ _ rfl
  refine RL.move rfl ?_
  refine RL.extract rfl rfl rfl ?_
  refine RL.extract rfl rfl rfl ?_
  refine RL.extract rfl rfl rfl ?_
  refine RL.assign rfl ?_
  refine RL.assign rfl ?_
  refine RL.assign rfl ?_
  refine RL.nil ?_
  refine X.seq ?_
  refine X.region rfl ?_
  refine RL.move rfl ?_
  refine RL.cmp_t rfl rfl rfl rfl (by show ((_ : Int) ≠ _); exact hv) ?_
  refine RL.nil ?_
  refine X.cond_t rfl ?_
  refine X.seq ?_
  refine X.region rfl ?_
  refine RL.move rfl ?_
  refine RL.assign rfl ?_
  refine RL.assign rfl ?_
  refine RL.nil ?_
  refine X.ret ?_
  refine ret2 rfl ?_
  show (_ : Value) = _
  rfl
theorem f_stack0 (p : Option Addr) (w : World) : Ctr Try.prog 21 [.pointer p] w [] fun v L => ∃ d1, v = .func (.func 27) #[] #[.pointer (some ⟨d1, 0, none⟩)] ∧ L = [(d1, cel 22 [.pointer p])] := by
  refine Ctr.intro0 (n := 4) Try.func21 rfl Try.ntmps21 (Nat.le_of_ble_eq_true rfl) ?_
  refine X.seq ?_
  refine X.region rfl ?_
  refine RL.boxP rfl rfl rfl ?_
  intro d1 hd1
  dsimp only at hd1
  refine RL.assign rfl ?_
  refine RL.nil ?_
  refine X.seq ?_
  refine X.region rfl ?_
  refine RL.makeFunc rfl rfl rfl ?_
  refine RL.assign rfl ?_
  refine RL.nil ?_
  refine X.ret ?_
  refine ret1 rfl ?_
  exact ⟨d1, rfl, rfl⟩
theorem f_siter0 (d1 : Nat) (Av : List Nat) (w : World) (h1 : w.heap[d1]? = some (cel 22 [.pointer none])) (hv1 : d1 ∈ Av) : Iter Try.prog 27 [.pointer (some ⟨d1, 0, none⟩)] (fun x : Int => [Value.int .i64 x]) [] Av w := by
  intro y LJ J Jx hown hnd hAv hJ0 hy
  have n1 := hAv d1 hv1
  have e1 : w.cell? ⟨d1, 0, none⟩ = some (.pointer none) := by rw [cell_entry h1]; rfl
  refine Ctr.intro (n := 22) Try.func27 rfl Try.ntmps27 (Nat.le_of_ble_eq_true rfl) hown hnd ?_
  refine X.seq ?_
  refine X.seq ?_
  refine X.region rfl ?_
  refine RL.loadI rfl sc22 rfl e1 n1 ?_
  refine RL.eqP rfl Try.underlying22 rfl rfl rfl ?_
  refine RL.nil ?_
  refine X.cond_t rfl ?_
  refine X.ret ?_
  refine ret0 rfl ?_
  exact ⟨LJ, [], (List.append_nil _).symm, .inl hJ0⟩
theorem f_siter (xs : List Int) (hx : xs.length ≤ 1000) (A : Option Addr) (cp : Nat) (fb d1 bb oo : Nat) (c0 c1 c2 c4 c5 : Value) (Av : List Nat) (w : World) (h1 : w.heap[d1]? = some (cel 22 [.pointer (some ⟨fb, 0, none⟩)])) (hf : w.heap[fb]? = some (cel 53 [c0, c1, c2, .slice A xs.length cp, c4, c5]))
    (hA : 0 < xs.length → A = some ⟨bb, oo, none⟩) (hc : CellsAt w bb oo (ints xs)) (hv1 : d1 ∈ Av) (hvf : fb ∈ Av) (hvb : 0 < xs.length → bb ∈ Av) : Iter Try.prog 27 [.pointer (some ⟨d1, 0, none⟩)] (fun x : Int => [Value.int .i64 x]) xs Av w := by
  intro y LJ J Jx hown hnd hAv hJ0 hy
  have n1 := hAv d1 hv1
  have nf := hAv fb hvf
  have nb : 0 < xs.length → bb ∉ keys LJ := fun h => hAv bb (hvb h)
  have e1 : w.cell? ⟨d1, 0, none⟩ = some (.pointer (some ⟨fb, 0, none⟩)) := by rw [cell_entry h1]; rfl
  have e2 : w.cell? ⟨fb, 0 + 3, none⟩ = some (.slice A xs.length cp) := by rw [cell_entry hf]; rfl
  refine Ctr.intro (n := 22) Try.func27 rfl Try.ntmps27 (Nat.le_of_ble_eq_true rfl) hown hnd ?_
  refine X.seq ?_
  refine X.seq ?_
  refine X.region rfl ?_
  refine RL.loadI rfl sc22 rfl e1 n1 ?_
  refine RL.eqP rfl Try.underlying22 rfl rfl rfl ?_
  refine RL.nil ?_
  refine X.cond_f rfl ?_
  refine X.skip ?_
  refine X.seq ?_
  refine X.region rfl ?_
  refine RL.loadI rfl sc22 rfl e1 n1 ?_
  refine RL.nilCheck rfl rfl ?_
  refine RL.fieldAddr rfl fd53_3 rfl ?_
  refine RL.loadI rfl sc35 rfl e2 nf ?_
  refine RL.fn0 rfl rfl rfl en28 (fun w hw => (f_clone64 xs A cp hx w ⟨bb, oo, (by rw [ints_length]; exact hA), cells_st hw hc (by rw [ints_length]; exact nb)⟩)) rfl ?_
  rintro _ _ ⟨A2, cp2, Lr2, rfl, hr2, hs2⟩
  refine RL.drop (L' := Lr2 ++ LJ) rfl (hs2.append (List.Sublist.refl _)) ?_
  refine RL.perm (L' := LJ ++ (Lr2 ++ [])) rfl (by classical exact List.perm_iff_count.2 (fun z => by simp only [List.count_append, List.count_cons, List.count_nil, List.cons_append, List.nil_append, List.set_cons_zero, List.set_cons_succ] <;> omega)) ?_
  refine RL.len rfl sl35 rfl ?_
  refine RL.move rfl ?_
  refine RL.nil ?_
  refine X.block ?_
  refine X.loop (γ := Nat) (fun g ρ L => ∃ LJ2 : List Ent, ∃ Lo : List Ent, (g ≤ xs.length) ∧ (J (xs.take g) LJ2) ∧ Has ρ [(0, .func (.yield y) #[] #[]), (11, .slice A2 xs.length cp2), (12, .int .i64 xs.length), (13, .int .i64 g)] ∧ L = LJ2 ++ (Lr2 ++ Lo)) (fun g => xs.length - g) (0) ⟨_, (by repeat (first | exact List.Sublist.refl _ | exact List.nil_sublist _ | (rw [List.append_nil]; exact List.Sublist.refl _) | exact List.sublist_append_left _ _ | exact (List.sublist_append_left _ _).trans (List.sublist_append_left _ _) | apply List.Sublist.cons_cons | apply List.Sublist.cons | refine List.Sublist.trans ?_ (List.sublist_append_right _ _))), LJ, [], Nat.zero_le _, hJ0, ⟨rfl, rfl, rfl, rfl, trivial⟩, rfl⟩ ?_
  rintro g _ _ ⟨LJ2, Lo, hg, hJ, hρ, rfl⟩
  obtain ⟨base, rfl⟩ := hρ.base
  clear hρ
  refine X.seq ?_
  refine X.region rfl ?_
  refine RL.cmp_s rfl rfl rfl rfl (fun h0 => ?_) (fun h0 => ?_)
  · replace h0 : (_ : Int) < _ := h0
    obtain ⟨b2, junk, rfl, rfl⟩ := hr2.open (by omega)
    obtain ⟨v, hvv⟩ : ∃ v, xs[g]? = some v := ⟨_, List.getElem?_eq_getElem (by omega)⟩
    obtain ⟨ht1, ht2⟩ := take_snoc_at hvv
    refine RL.nil ?_
    refine X.seq ?_
    refine X.cond_t rfl ?_
    refine X.skip ?_
    refine X.seq ?_
    refine X.block ?_
    refine X.seq ?_
    refine X.region rfl ?_
    refine RL.indexAddr rfl sl35 rfl rfl rfl rfl (by omega) ?_
    refine RL.loadO rfl sc2 rfl (ints_app_get hvv) ?_
    refine RL.assign rfl ?_
    refine RL.nil ?_
    refine X.seq ?_
    refine X.region rfl ?_
    refine RL.move rfl ?_
    refine RL.move rfl ?_
    refine RL.yield (LJ := LJ2) rfl rfl rfl (List.Perm.refl _) (fun w1 hst1 => hy _ v _ _ _ w1 ht2 hJ hst1) rfl ?_
    rintro _ LJ3 (⟨rfl, hJ3⟩ | ⟨rfl, hJ3⟩)
    · refine RL.not rfl rfl ?_
      refine RL.nil ?_
      refine X.cond_f rfl ?_
      refine X.skip ?_
      refine X.blk ?_
      refine X.region rfl ?_
      refine RL.add rfl rfl rfl (by omega) ?_
      refine RL.move rfl ?_
      refine RL.nil ?_
      refine X.hyp ⟨rfl, g + 1, by omega, _, (by repeat (first | exact List.Sublist.refl _ | exact List.nil_sublist _ | (rw [List.append_nil]; exact List.Sublist.refl _) | exact List.sublist_append_left _ _ | exact (List.sublist_append_left _ _).trans (List.sublist_append_left _ _) | apply List.Sublist.cons_cons | apply List.Sublist.cons | refine List.Sublist.trans ?_ (List.sublist_append_right _ _))), LJ3, Lo, by omega, by rw [ht1]; exact hJ3, ⟨rfl, rfl, rfl, rfl, trivial⟩, rfl⟩
    · refine RL.not rfl rfl ?_
      refine RL.nil ?_
      refine X.cond_t rfl ?_
      refine X.ret ?_
      refine ret0 rfl ?_
      exact ⟨LJ3, _, rfl, .inr ⟨_, v, _, ht2, hJ3⟩⟩
  · replace h0 : ¬ ((_ : Int) < _) := h0
    refine RL.nil ?_
    refine X.seq ?_
    refine X.cond_f rfl ?_
    refine X.exit rfl ?_
    refine X.nil ?_
    refine end0 rfl ?_
    exact ⟨LJ2, _, rfl, .inl (by rw [List.take_of_length_le (by omega)] at hJ; exact hJ)⟩
theorem f_stk (xs : List Int) (hx : xs.length ≤ 1000) (A : Option Addr) (cp : Nat) (fb : Nat) (c0 c1 c2 c4 c5 : Value) (m : Nat) (w : World) (hf : w.heap[fb]? = some (cel 53 [c0, c1, c2, .slice A xs.length cp, c4, c5])) (hrd : Rd w A (ints xs)) :
    Ctr Try.prog 11 [.pointer (some ⟨fb, 0, none⟩), .int .i64 m] w [] fun v L => ∃ A2 cp2 Lr2, v = .slice A2 (xs.take m).length cp2 ∧ Row 2 1 (.slice A2 (xs.take m).length cp2) (ints (xs.take m)) Lr2 ∧ Lr2.Sublist L := by
  obtain ⟨bb, oo, hA, hc⟩ := hrd
  rw [ints_length] at hA
  have hbl : 0 < xs.length → bb < w.heap.size := fun h => Rd.lt hc (by rw [ints_length]; omega)
  have hfl : fb < w.heap.size := (Array.getElem?_eq_some_iff.1 hf).1
  refine Ctr.intro0 (n := 23) Try.func11 rfl Try.ntmps11 (Nat.le_of_ble_eq_true rfl) ?_
  refine X.seq ?_
  refine X.region rfl ?_
  refine RL.boxI rfl rfl rfl ?_
  intro k3 hk3
  dsimp only at hk3
  refine RL.assign rfl ?_
  refine RL.nil ?_
  refine X.seq ?_
  refine X.region rfl ?_
  refine RL.alloc rfl rfl zt35 ?_
  intro k5 hk5
  dsimp only at hk5
  refine RL.nil ?_
  refine X.seq ?_
  refine X.seq ?_
  refine X.region rfl ?_
  refine RL.move rfl ?_
  refine RL.fn0 rfl rfl rfl en21 (fun w hw => (f_stack0 (some ⟨fb, 0, none⟩) w)) rfl ?_
  rintro _ _ ⟨d1, rfl, rfl⟩
  refine RL.assign rfl ?_
  refine RL.nil ?_
  refine X.seq ?_
  refine X.region rfl ?_
  refine RL.move rfl ?_
  refine RL.neNilF rfl Try.underlying57 rfl rfl ?_
  refine RL.nil ?_
  refine X.cond_t rfl ?_
  refine X.seq ?_
  refine X.region rfl ?_
  refine RL.move rfl ?_
  refine RL.nil ?_
  refine X.block ?_
  refine X.fact (fun w2 h => h.nodup) (fun hnd => ?_)
  simp at hnd
  refine X.rangeFunc (encs := (fun x : Int => [Value.int .i64 x])) (LB := [(k5, cel 35 [.slice none 0 0])]) (Lr := [(d1, cel 22 [.pointer (some ⟨fb, 0, none⟩)]), (k3, cel 3 [.int .i64 m])]) (Av := (if 0 < xs.length then [d1, fb, bb] else [d1, fb])) (gI k5 m) (gX k5 m) (fun pre x ρ L => Has ρ [(3, .pointer (some ⟨k3, 0, none⟩)), (5, .pointer (some ⟨k5, 0, none⟩)), (7, .int .i64 x)] ∧ gI k5 m pre L) rfl rfl en27 (by classical exact List.perm_iff_count.2 (fun z => by simp only [List.count_append, List.count_cons, List.count_nil, List.cons_append, List.nil_append, List.set_cons_zero, List.set_cons_succ] <;> omega)) (fun w3 Lm hst3 => f_siter xs hx A cp fb d1 bb oo c0 c1 c2 c4 c5 (if 0 < xs.length then [d1, fb, bb] else [d1, fb]) w3 (hst3.own (d1, _) (by simp)) (by rw [hst3.keep fb hfl (by simp)]; exact hf) hA (cells_st hst3 hc (fun _ => by simp)) (by split <;> simp) (by split <;> simp) (fun h => by rw [if_pos h]; simp)) (by
      intro z hz
      have hz2 : z = d1 ∨ z = fb ∨ (0 < xs.length ∧ z = bb) := by
        split at hz
        · rename_i h; simp at hz; rcases hz with rfl | rfl | rfl
          · exact .inl rfl
          · exact .inr (.inl rfl)
          · exact .inr (.inr ⟨h, rfl⟩)
        · simp at hz; rcases hz with rfl | rfl
          · exact .inl rfl
          · exact .inr (.inl rfl)
      rcases hz2 with rfl | rfl | ⟨h, rfl⟩
      · simp [keys]; omega
      · simp [keys]; omega
      · have := hbl h; simp [keys]; omega) (fun _ => rfl) (⟨none, 0, [], Row.nil, Nat.zero_le _, rfl⟩) ?_ ?_ ?_ ?_
  · intro pre x rest LB2 w2 l2 hF hI _
    refine X.region rfl ?_
    refine RL.assign rfl ?_
    refine RL.nil ?_
    exact X.hyp ⟨rfl, ⟨rfl, rfl, rfl, trivial⟩, hI⟩
  · rintro pre x rest ρ2 _ w2 l2 hF ⟨hρ, A2, cp2, Lr2, hrow, hpm, rfl⟩ ⟨Lo, hst⟩ hl hrec
    obtain ⟨base2, rfl⟩ := hρ.base
    clear hρ
    have hpl : pre.length ≤ 1000 := by have := congrArg List.length hF; simp at this <;> omega
    have e3 := hst.cellB (b := k3) (t := 3) (v := .int .i64 m) (by simp)
    have n3 := hst.not_left (p := (k3, cel 3 [.int .i64 m])) (by simp)
    refine X.block ?_
    refine X.seq ?_
    refine X.seq ?_
    refine X.region rfl ?_
    refine RL.loadO rfl sc35 rfl rfl ?_
    refine RL.len rfl sl35 rfl ?_
    refine RL.loadI rfl sc3 rfl e3 n3 ?_
    refine RL.cmp_s rfl rfl rfl rfl (fun hm => ?_) (fun hm => ?_)
    · replace hm : (_ : Int) ≥ _ := hm
      refine RL.nil ?_
      refine X.cond_t rfl ?_
      refine X.exit_out rfl ?_
      exact ⟨_, List.Sublist.refl _, rfl, pre, x, rfl, ⟨A2, cp2, Lr2, hrow, hpm, rfl⟩, by omega⟩
    · replace hm : ¬ ((_ : Int) ≥ _) := hm
      refine RL.nil ?_
      refine X.cond_f rfl ?_
      refine X.skip ?_
      refine X.region rfl ?_
      refine RL.loadO rfl sc35 rfl rfl ?_
      refine RL.move rfl ?_
      refine RL.bs1I rfl rfl sl35 zt2 rfl ?_
      intro bb3 hbb3
      refine RL.app1I (Lr := Lr2) (Lz := [(k5, cel 35 [.slice A2 pre.length cp2])]) rfl rfl sl35 el_i64 Try.underlying35 (by classical exact List.perm_iff_count.2 (fun z => by simp only [List.count_append, List.count_cons, List.count_nil, List.cons_append, List.nil_append, List.set_cons_zero, List.set_cons_succ] <;> omega)) rfl rfl hrow (by rw [ints_length]; (try simp only [List.length_dropLast]); omega) (n := (pre ++ [x]).length) (by rw [ints_length]; simp) ?_
      intro A3 cp3 Lr3 hr3
      rw [← ints_snoc] at hr3
      refine RL.stS rfl rfl sc35.size rfl rfl (by first | exact Nat.zero_lt_one | decide | simp) ?_
      refine RL.nil ?_
      refine X.blk ?_
      refine X.nil ?_
      exact ⟨Lr3 ++ [_], List.Sublist.append (List.Sublist.refl _) (List.sublist_append_left _ _), A3, cp3, Lr3, hr3, by simp; omega, rfl⟩
  · rintro LB2 D ⟨A2, cp2, Lr2, hrow, hpm, rfl⟩
    refine X.blk ?_
    refine X.seq ?_
    refine X.region rfl ?_
    refine RL.loadO rfl sc35 rfl rfl ?_
    refine RL.assign rfl ?_
    refine RL.nil ?_
    refine X.ret ?_
    refine retm1 rfl ?_
    rw [List.take_of_length_le hpm]
    exact ⟨A2, cp2, Lr2, rfl, hrow, (List.sublist_append_left _ _).trans (List.sublist_append_left _ _)⟩
  · rintro e pre x rest LB2 D hF hex ⟨rfl, p, x2, hp, ⟨A2, cp2, Lr2, hrow, hpm, rfl⟩, hpl⟩
    obtain ⟨rfl, _⟩ := List.append_inj' hp rfl
    have htk : xs.take m = pre := by rw [hF, ← hpl]; simp
    refine X.exit (id := 0) rfl ?_
    refine X.seq ?_
    refine X.region rfl ?_
    refine RL.loadO rfl sc35 rfl rfl ?_
    refine RL.assign rfl ?_
    refine RL.nil ?_
    refine X.ret ?_
    refine retm1 rfl ?_
    rw [htk]
    exact ⟨A2, cp2, Lr2, rfl, hrow, (List.sublist_append_left _ _).trans (List.sublist_append_left _ _)⟩
theorem f_stk0 (m : Nat) (w : World) : Ctr Try.prog 11 [.pointer none, .int .i64 m] w [] fun v L => ∃ A2 cp2 Lr2, v = .slice A2 (([] : List Int).take m).length cp2 ∧ Row 2 1 (.slice A2 (([] : List Int).take m).length cp2) (ints (([] : List Int).take m)) Lr2 ∧ Lr2.Sublist L := by
  refine Ctr.intro0 (n := 23) Try.func11 rfl Try.ntmps11 (Nat.le_of_ble_eq_true rfl) ?_
  refine X.seq ?_
  refine X.region rfl ?_
  refine RL.boxI rfl rfl rfl ?_
  intro k3 hk3
  dsimp only at hk3
  refine RL.assign rfl ?_
  refine RL.nil ?_
  refine X.seq ?_
  refine X.region rfl ?_
  refine RL.alloc rfl rfl zt35 ?_
  intro k5 hk5
  dsimp only at hk5
  refine RL.nil ?_
  refine X.seq ?_
  refine X.seq ?_
  refine X.region rfl ?_
  refine RL.move rfl ?_
  refine RL.fn0 rfl rfl rfl en21 (fun w hw => (f_stack0 none w)) rfl ?_
  rintro _ _ ⟨d1, rfl, rfl⟩
  refine RL.assign rfl ?_
  refine RL.nil ?_
  refine X.seq ?_
  refine X.region rfl ?_
  refine RL.move rfl ?_
  refine RL.neNilF rfl Try.underlying57 rfl rfl ?_
  refine RL.nil ?_
  refine X.cond_t rfl ?_
  refine X.seq ?_
  refine X.region rfl ?_
  refine RL.move rfl ?_
  refine RL.nil ?_
  refine X.block ?_
  refine X.fact (fun w2 h => h.nodup) (fun hnd => ?_)
  simp at hnd
  refine X.rangeFunc (encs := (fun x : Int => [Value.int .i64 x])) (LB := [(k5, cel 35 [.slice none 0 0])]) (Lr := [(d1, cel 22 [.pointer none]), (k3, cel 3 [.int .i64 m])]) (Av := [d1]) (gI k5 m) (gX k5 m) (fun pre x ρ L => Has ρ [(3, .pointer (some ⟨k3, 0, none⟩)), (5, .pointer (some ⟨k5, 0, none⟩)), (7, .int .i64 x)] ∧ gI k5 m pre L) rfl rfl en27 (by classical exact List.perm_iff_count.2 (fun z => by simp only [List.count_append, List.count_cons, List.count_nil, List.cons_append, List.nil_append, List.set_cons_zero, List.set_cons_succ] <;> omega)) (fun w3 Lm hst3 => f_siter0 d1 [d1] w3 (hst3.own (d1, _) (by simp)) (by simp)) (by
      intro z hz
      simp at hz
      subst hz
      simp [keys] <;> omega) (fun _ => rfl) (⟨none, 0, [], Row.nil, Nat.zero_le _, rfl⟩) ?_ ?_ ?_ ?_
  · intro pre x rest LB2 w2 l2 hF hI _
    refine X.region rfl ?_
    refine RL.assign rfl ?_
    refine RL.nil ?_
    exact X.hyp ⟨rfl, ⟨rfl, rfl, rfl, trivial⟩, hI⟩
  · rintro pre x rest ρ2 _ w2 l2 hF ⟨hρ, A2, cp2, Lr2, hrow, hpm, rfl⟩ ⟨Lo, hst⟩ hl hrec
    obtain ⟨base2, rfl⟩ := hρ.base
    clear hρ
    have hpl : pre.length ≤ 1000 := by have := congrArg List.length hF; simp at this <;> omega
    have e3 := hst.cellB (b := k3) (t := 3) (v := .int .i64 m) (by simp)
    have n3 := hst.not_left (p := (k3, cel 3 [.int .i64 m])) (by simp)
    refine X.block ?_
    refine X.seq ?_
    refine X.seq ?_
    refine X.region rfl ?_
    refine RL.loadO rfl sc35 rfl rfl ?_
    refine RL.len rfl sl35 rfl ?_
    refine RL.loadI rfl sc3 rfl e3 n3 ?_
    refine RL.cmp_s rfl rfl rfl rfl (fun hm => ?_) (fun hm => ?_)
    · replace hm : (_ : Int) ≥ _ := hm
      refine RL.nil ?_
      refine X.cond_t rfl ?_
      refine X.exit_out rfl ?_
      exact ⟨_, List.Sublist.refl _, rfl, pre, x, rfl, ⟨A2, cp2, Lr2, hrow, hpm, rfl⟩, by omega⟩
    · replace hm : ¬ ((_ : Int) ≥ _) := hm
      refine RL.nil ?_
      refine X.cond_f rfl ?_
      refine X.skip ?_
      refine X.region rfl ?_
      refine RL.loadO rfl sc35 rfl rfl ?_
      refine RL.move rfl ?_
      refine RL.bs1I rfl rfl sl35 zt2 rfl ?_
      intro bb3 hbb3
      refine RL.app1I (Lr := Lr2) (Lz := [(k5, cel 35 [.slice A2 pre.length cp2])]) rfl rfl sl35 el_i64 Try.underlying35 (by classical exact List.perm_iff_count.2 (fun z => by simp only [List.count_append, List.count_cons, List.count_nil, List.cons_append, List.nil_append, List.set_cons_zero, List.set_cons_succ] <;> omega)) rfl rfl hrow (by rw [ints_length]; (try simp only [List.length_dropLast]); omega) (n := (pre ++ [x]).length) (by rw [ints_length]; simp) ?_
      intro A3 cp3 Lr3 hr3
      rw [← ints_snoc] at hr3
      refine RL.stS rfl rfl sc35.size rfl rfl (by first | exact Nat.zero_lt_one | decide | simp) ?_
      refine RL.nil ?_
      refine X.blk ?_
      refine X.nil ?_
      exact ⟨Lr3 ++ [_], List.Sublist.append (List.Sublist.refl _) (List.sublist_append_left _ _), A3, cp3, Lr3, hr3, by simp; omega, rfl⟩
  · rintro LB2 D ⟨A2, cp2, Lr2, hrow, hpm, rfl⟩
    refine X.blk ?_
    refine X.seq ?_
    refine X.region rfl ?_
    refine RL.loadO rfl sc35 rfl rfl ?_
    refine RL.assign rfl ?_
    refine RL.nil ?_
    refine X.ret ?_
    refine retm1 rfl ?_
    rw [List.take_of_length_le hpm]
    exact ⟨A2, cp2, Lr2, rfl, hrow, (List.sublist_append_left _ _).trans (List.sublist_append_left _ _)⟩
  · rintro e pre x rest LB2 D hF hex ⟨rfl, p, x2, hp, ⟨A2, cp2, Lr2, hrow, hpm, rfl⟩, hpl⟩
    obtain ⟨rfl, _⟩ := List.append_inj' hp rfl
    have htk : ([] : List Int).take m = pre := by rw [hF, ← hpl]; simp
    refine X.exit (id := 0) rfl ?_
    refine X.seq ?_
    refine X.region rfl ?_
    refine RL.loadO rfl sc35 rfl rfl ?_
    refine RL.assign rfl ?_
    refine RL.nil ?_
    refine X.ret ?_
    refine retm1 rfl ?_
    rw [htk]
    exact ⟨A2, cp2, Lr2, rfl, hrow, (List.sublist_append_left _ _).trans (List.sublist_append_left _ _)⟩
end Go.Proofs.Ytekepfpkihnodaa

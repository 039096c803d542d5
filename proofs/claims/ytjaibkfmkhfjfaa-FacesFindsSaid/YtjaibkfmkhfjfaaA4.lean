/- The example; the iterator that goes along a line. -/
import Derived.Test.YtjaibkfmkhfjfaaA3
import Derived.Test.YtjaibkfmkhfjfaaSymMore
set_option linter.unusedVariables false
set_option linter.unusedSimpArgs false
namespace Go.Proofs.Ytjaibkfmkhfjfaa
open Go.RowKit
attribute [local irreducible] X RL W Ctr
theorem f_three (w : World) : Ctr Try.prog 25 [] w [] fun v L => ∃ b, v = .slice (some ⟨b, 0, none⟩) 3 3 ∧ L = [(b, cel 30 (fcells threeF))] := by
  refine Ctr.intro0 (n := 7) Try.func25 rfl Try.ntmps25 (Nat.le_of_ble_eq_true rfl) ?_
  refine X.seq ?_
  refine X.region rfl ?_
  refine RL.assign rfl ?_
  refine RL.nil ?_
  refine X.seq ?_
  refine X.region rfl ?_
  refine RL.bldC (vs := [(1, .int .i64 (-1))]) (cells := [.int .u8 0, .int .u8 0, .int .u8 0, .int .u8 0, .int .u8 0, .int .u8 0, .int .u8 0, .int .u8 0, .int .u8 0, .int .u8 0, .int .u8 0, .int .u8 0, .int .u8 0, .int .u8 0, .int .u8 0, .int .u8 0, .int .i64 (-1)]) rfl rfl (fun w => by kernel_rfl) ?_
  refine RL.bldC (vs := [(0, .int .u8 1)]) (cells := [.int .u8 1, .int .u8 0, .int .u8 0, .int .u8 0, .int .u8 0, .int .u8 0, .int .u8 0, .int .u8 0, .int .u8 0, .int .u8 0, .int .u8 0, .int .u8 0, .int .u8 0, .int .u8 0, .int .u8 0, .int .u8 0]) rfl rfl (fun w => by kernel_rfl) ?_
  refine RL.bldC (vs := [(0, .agg #[.int .u8 1, .int .u8 0, .int .u8 0, .int .u8 0, .int .u8 0, .int .u8 0, .int .u8 0, .int .u8 0, .int .u8 0, .int .u8 0, .int .u8 0, .int .u8 0, .int .u8 0, .int .u8 0, .int .u8 0, .int .u8 0]), (1, .int .i64 0)]) (cells := [.int .u8 1, .int .u8 0, .int .u8 0, .int .u8 0, .int .u8 0, .int .u8 0, .int .u8 0, .int .u8 0, .int .u8 0, .int .u8 0, .int .u8 0, .int .u8 0, .int .u8 0, .int .u8 0, .int .u8 0, .int .u8 0, .int .i64 (0)]) rfl rfl (fun w => by kernel_rfl) ?_
  refine RL.bldC (vs := [(0, .int .u8 2)]) (cells := [.int .u8 2, .int .u8 0, .int .u8 0, .int .u8 0, .int .u8 0, .int .u8 0, .int .u8 0, .int .u8 0, .int .u8 0, .int .u8 0, .int .u8 0, .int .u8 0, .int .u8 0, .int .u8 0, .int .u8 0, .int .u8 0]) rfl rfl (fun w => by kernel_rfl) ?_
  refine RL.bldC (vs := [(0, .agg #[.int .u8 2, .int .u8 0, .int .u8 0, .int .u8 0, .int .u8 0, .int .u8 0, .int .u8 0, .int .u8 0, .int .u8 0, .int .u8 0, .int .u8 0, .int .u8 0, .int .u8 0, .int .u8 0, .int .u8 0, .int .u8 0]), (1, .int .i64 1)]) (cells := [.int .u8 2, .int .u8 0, .int .u8 0, .int .u8 0, .int .u8 0, .int .u8 0, .int .u8 0, .int .u8 0, .int .u8 0, .int .u8 0, .int .u8 0, .int .u8 0, .int .u8 0, .int .u8 0, .int .u8 0, .int .u8 0, .int .i64 (1)]) rfl rfl (fun w => by kernel_rfl) ?_
  refine RL.bsC (vs := [(0, .agg #[.int .u8 0, .int .u8 0, .int .u8 0, .int .u8 0, .int .u8 0, .int .u8 0, .int .u8 0, .int .u8 0, .int .u8 0, .int .u8 0, .int .u8 0, .int .u8 0, .int .u8 0, .int .u8 0, .int .u8 0, .int .u8 0, .int .i64 (-1)]), (1, .agg #[.int .u8 1, .int .u8 0, .int .u8 0, .int .u8 0, .int .u8 0, .int .u8 0, .int .u8 0, .int .u8 0, .int .u8 0, .int .u8 0, .int .u8 0, .int .u8 0, .int .u8 0, .int .u8 0, .int .u8 0, .int .u8 0, .int .i64 (0)]), (2, .agg #[.int .u8 2, .int .u8 0, .int .u8 0, .int .u8 0, .int .u8 0, .int .u8 0, .int .u8 0, .int .u8 0, .int .u8 0, .int .u8 0, .int .u8 0, .int .u8 0, .int .u8 0, .int .u8 0, .int .u8 0, .int .u8 0, .int .i64 (1)])]) (cells := fcells threeF) rfl rfl sl22 (fun w => let ⟨v, a, b⟩ := zt30; ⟨v, a, b w⟩) rfl rfl rfl (by kernel_rfl) ?_
  intro b hb
  refine RL.assign rfl ?_
  refine RL.nil ?_
  refine X.ret ?_
  refine ret1 rfl ?_
  exact ⟨b, rfl, rfl⟩
theorem f_line (A : Option Addr) (n c : Nat) (a : Int) (w : World) : Ctr Try.prog 26 [.slice A n c, .int .i64 a] w [] fun v L => ∃ b2 b1, v = .func (.func 27) #[] #[.pointer (some ⟨b2, 0, none⟩), .pointer (some ⟨b1, 0, none⟩)] ∧ L = [(b2, cel 3 [.int .i64 a]), (b1, cel 22 [.slice A n c])] := by
  refine Ctr.intro0 (n := 6) Try.func26 rfl Try.ntmps26 (Nat.le_of_ble_eq_true rfl) ?_
  refine X.seq ?_
  refine X.region rfl ?_
  refine RL.boxS rfl rfl rfl ?_
  intro b1 hb1
  dsimp only at hb1
  refine RL.boxI rfl rfl rfl ?_
  intro b2 hb2
  dsimp only at hb2
  refine RL.assign rfl ?_
  refine RL.nil ?_
  refine X.seq ?_
  refine X.region rfl ?_
  refine RL.makeFunc rfl rfl rfl ?_
  refine RL.assign rfl ?_
  refine RL.nil ?_
  refine X.ret ?_
  refine ret1 rfl ?_
  exact ⟨_, _, rfl, rfl⟩
theorem f_iter (fs : List Face) (hok : ∀ f ∈ fs, FaceOk f) (hlen : fs.length ≤ 1000) (A : Option Addr) (c : Nat) (a : Int) (b1 b2 bb oo : Nat) (Av : List Nat) (w : World) (h2 : w.heap[b2]? = some (cel 3 [.int .i64 a])) (h1 : w.heap[b1]? = some (cel 22 [.slice A fs.length c]))
    (hA : 0 < fs.length → A = some ⟨bb, oo, none⟩) (hc : CellsAt w bb oo (fcells fs)) (hv2 : b2 ∈ Av) (hv1 : b1 ∈ Av) (hvb : 0 < fs.length → bb ∈ Av) : Iter Try.prog 27 [.pointer (some ⟨b2, 0, none⟩), .pointer (some ⟨b1, 0, none⟩)] (fun x : Int => [.int .i64 x]) (lineP fs a) Av w := by
  intro l LJ J Jx hown hnd hAv hJ0 hy
  have n2 := hAv b2 hv2
  have n1 := hAv b1 hv1
  have nb : 0 < fs.length → bb ∉ keys LJ := fun h => hAv bb (hvb h)
  have e2 : w.cell? ⟨b2, 0, none⟩ = some (.int .i64 a) := by rw [cell_entry h2]; rfl
  have e1 : w.cell? ⟨b1, 0, none⟩ = some (.slice A fs.length c) := by rw [cell_entry h1]; rfl
  refine Ctr.intro (n := 29) Try.func27 rfl Try.ntmps27 (Nat.le_of_ble_eq_true rfl) hown hnd ?_
  refine X.seq ?_
  refine X.region rfl ?_
  refine RL.loadI rfl sc3 rfl e2 n2 ?_
  refine RL.assign rfl ?_
  refine RL.nil ?_
  refine X.block ?_
  refine X.loop (γ := Int) (fun g ρ L => ∃ done : List Int, ∃ LJ2 : List Ent, ∃ Lo : List Ent, (J done LJ2) ∧ (done ++ lineP fs g = lineP fs a) ∧ Has ρ [(0, .func (.yield l) #[] #[]), (1, .pointer (some ⟨b2, 0, none⟩)), (2, .pointer (some ⟨b1, 0, none⟩)), (4, .int .i64 g)] ∧ L = LJ2 ++ Lo) (fun g => (g + 1).toNat) (a) ⟨_, (by repeat (first | exact List.Sublist.refl _ | exact List.nil_sublist _ | (rw [List.append_nil]; exact List.Sublist.refl _) | exact List.sublist_append_left _ _ | exact (List.sublist_append_left _ _).trans (List.sublist_append_left _ _) | apply List.Sublist.cons_cons | apply List.Sublist.cons | refine List.Sublist.trans ?_ (List.sublist_append_right _ _))), [], LJ, [], hJ0, rfl, ⟨rfl, rfl, rfl, rfl, trivial⟩, rfl⟩ ?_
  rintro g _ _ ⟨done, LJ2, Lo, hJ, hq, hρ, rfl⟩
  obtain ⟨base, rfl⟩ := hρ.base
  clear hρ
  refine X.seq ?_
  refine X.seq ?_
  refine X.region rfl ?_
  refine RL.move rfl ?_
  refine RL.cmp_s rfl rfl rfl rfl (fun h0 => ?_) (fun h0 => ?_)
  · replace h0 : (_ : Int) ≥ _ := h0
    refine RL.move rfl ?_
    refine RL.move rfl ?_
    refine RL.loadI rfl sc22 rfl e1 n1 ?_
    refine RL.len rfl sl22 rfl ?_
    refine RL.cmp_s rfl rfl rfl rfl (fun h1 => ?_) (fun h1 => ?_)
    · replace h1 : (_ : Int) < _ := h1
      obtain ⟨f, hf⟩ : ∃ f, fs[g.toNat]? = some f := ⟨_, List.getElem?_eq_getElem (by omega)⟩
      have hfo := hok f (List.mem_of_getElem? hf)
      have hst := lineP_step ⟨h0, h1⟩ hf
      obtain ⟨r, hr⟩ := lineP_cons ⟨h0, h1⟩
      have hq2 : lineP fs a = done ++ g :: r := by rw [← hq, hr]
      refine RL.pick_t rfl rfl ?_
      refine RL.move rfl ?_
      refine RL.move rfl ?_
      refine RL.move rfl ?_
      refine RL.yield rfl rfl rfl (List.Perm.refl _) (fun w1 hst1 => hy done g r _ _ w1 hq2 hJ hst1) rfl ?_
      rintro _ LJ3 (⟨rfl, hJ3⟩ | ⟨rfl, hJ3⟩)
      · refine RL.pick_t rfl rfl ?_
        refine RL.nil ?_
        refine X.cond_t rfl ?_
        refine X.skip ?_
        refine X.block ?_
        refine X.seq ?_
        refine X.region rfl ?_
        refine RL.loadI rfl sc22 rfl e1 n1 ?_
        refine RL.move rfl ?_
        refine RL.indexAddr rfl sl22 rfl rfl (hA (by omega)) (Int.toNat_of_nonneg h0).symm (by omega) ?_
        refine RL.fieldAddr rfl fd30_1 rfl ?_
        refine RL.loadI rfl sc3 rfl (face_base_at hc hok hf) (nb (by omega)) ?_
        refine RL.assign rfl ?_
        refine RL.nil ?_
        refine X.seq ?_
        refine X.seq ?_
        refine X.region rfl ?_
        refine RL.move rfl ?_
        refine RL.move rfl ?_
        refine RL.cmp_s rfl rfl rfl rfl (fun hb => ?_) (fun hb => ?_)
        · replace hb : (_ : Int) ≥ _ := hb
          refine RL.nil ?_
          refine X.cond_t rfl ?_
          refine X.ret ?_
          refine ret0 rfl ?_
          exact ⟨LJ3, Lo, rfl, .inl (by rw [hq2, show r = [] by rw [hr, if_pos hb] at hst; simpa using hst]; exact hJ3)⟩
        · replace hb : ¬ ((_ : Int) ≥ _) := hb
          refine RL.nil ?_
          refine X.cond_f rfl ?_
          refine X.skip ?_
          refine X.region rfl ?_
          refine RL.move rfl ?_
          refine RL.assign rfl ?_
          refine RL.nil ?_
          refine X.blk ?_
          refine X.hyp ⟨rfl, f.base, by omega, _, (by repeat (first | exact List.Sublist.refl _ | exact List.nil_sublist _ | (rw [List.append_nil]; exact List.Sublist.refl _) | exact List.sublist_append_left _ _ | exact (List.sublist_append_left _ _).trans (List.sublist_append_left _ _) | apply List.Sublist.cons_cons | apply List.Sublist.cons | refine List.Sublist.trans ?_ (List.sublist_append_right _ _))), done ++ [g], LJ3, Lo, hJ3, by rw [hq2, show r = lineP fs f.base by rw [hr, if_neg hb] at hst; simpa using hst]; simp, ⟨rfl, rfl, rfl, rfl, trivial⟩, rfl⟩
      · refine RL.pick_t rfl rfl ?_
        refine RL.nil ?_
        refine X.cond_f rfl ?_
        refine X.exit rfl ?_
        refine X.nil ?_
        refine end0 rfl ?_
        exact ⟨LJ3, Lo, rfl, .inr ⟨done, g, r, hq2, hJ3⟩⟩
    · replace h1 : ¬ ((_ : Int) < _) := h1
      refine RL.pick_t rfl rfl ?_
      refine RL.move rfl ?_
      refine RL.skip rfl ?_
      refine RL.skip rfl ?_
      refine RL.skip rfl ?_
      refine RL.pick_f rfl rfl ?_
      refine RL.nil ?_
      refine X.cond_f rfl ?_
      refine X.exit rfl ?_
      refine X.nil ?_
      refine end0 rfl ?_
      exact ⟨LJ2, Lo, rfl, .inl (by rw [lineP_out (by omega), List.append_nil] at hq; rw [← hq]; exact hJ)⟩
  · replace h0 : ¬ ((_ : Int) ≥ _) := h0
    refine RL.move rfl ?_
    refine RL.skip rfl ?_
    refine RL.skip rfl ?_
    refine RL.skip rfl ?_
    refine RL.skip rfl ?_
    refine RL.pick_f rfl rfl ?_
    refine RL.move rfl ?_
    refine RL.skip rfl ?_
    refine RL.skip rfl ?_
    refine RL.skip rfl ?_
    refine RL.pick_f rfl rfl ?_
    refine RL.nil ?_
    refine X.cond_f rfl ?_
    refine X.exit rfl ?_
    refine X.nil ?_
    refine end0 rfl ?_
    exact ⟨LJ2, Lo, rfl, .inl (by rw [lineP_out (by omega), List.append_nil] at hq; rw [← hq]; exact hJ)⟩
end Go.Proofs.Ytjaibkfmkhfjfaa

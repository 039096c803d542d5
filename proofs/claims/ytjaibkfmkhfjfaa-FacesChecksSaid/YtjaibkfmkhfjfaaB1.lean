/- The walk of FacesChecks. -/
import Derived.Test.YtjaibkfmkhfjfaaA6
set_option linter.unusedVariables false
set_option linter.unusedSimpArgs false
namespace Go.Proofs.Ytjaibkfmkhfjfaa
open Go.RowKit
attribute [local irreducible] X RL W Ctr
theorem w_checks (fs : List Face) (hok : ∀ f ∈ fs, FaceOk f) (hmax : fs.length ≤ 9223372036854775807) (A : Option Addr) (c : Nat) (hcap : fs.length ≤ c) (w : World) (hrd : Rd w A (fcells fs)) :
    Ctr Try.prog 3 [.slice A fs.length c] w [] fun v _ => v = .bool true := by
  have hrd1 := hrd
  obtain ⟨bb, oo, hA0, hc⟩ := hrd
  have hA : 0 < fs.length → A = some ⟨bb, oo, none⟩ := fun h => hA0 (by rw [fcells_len hok]; omega)
  refine Ctr.intro0 (n := 36) Try.func3 rfl Try.ntmps3 (Nat.le_of_ble_eq_true rfl) ?_
  refine X.seq ?_
  refine X.region rfl ?_
  refine RL.assign rfl ?_
  refine RL.nil ?_
  refine X.seq ?_
  refine X.seq ?_
  refine X.region rfl ?_
  refine RL.move rfl ?_
  rcases Nat.lt_or_ge 60 fs.length with hg | hg
  · refine RL.fn0 rfl rfl rfl en9 (fun w hw => (f_great A fs.length c w hmax).toT hg) rfl ?_
    rintro _ _ rfl
    refine RL.nil ?_
    refine X.cond_t rfl ?_
    refine X.seq ?_
    refine X.region rfl ?_
    refine RL.fn0 rfl rfl rfl en10 (fun w hw => (f_awake w)) rfl ?_
    rintro _ _ rfl
    refine RL.assign rfl ?_
    refine RL.nil ?_
    refine X.ret ?_
    refine ret1 rfl ?_
    show (_ : Value) = _
    rfl
  · have hlen : fs.length ≤ 1000 := by omega
    refine RL.fn0 rfl rfl rfl en9 (fun w hw => (f_great A fs.length c w hmax).toF (by omega)) rfl ?_
    rintro _ _ rfl
    refine RL.nil ?_
    refine X.cond_f rfl ?_
    refine X.skip ?_
    refine X.seq ?_
    refine X.region rfl ?_
    refine RL.bs0 rfl rfl sl22 ?_
    intro b1 hb1
    refine RL.move rfl ?_
    refine RL.drop (L' := [(b1, cel 30 [])]) rfl (List.Sublist.cons_cons _ (List.nil_sublist _)) ?_
    refine RL.append (xs := []) (Lz := []) (ys := fcells fs) rfl rfl sl22 el_face (by decide) (by decide) Try.underlying22 (by rw [List.append_nil]; exact List.Perm.refl _) rfl (Row.blk b1 0 0 [] [] rfl rfl (Nat.le_refl _)) rfl (fcells_len hok) fcells_one (fun w2 hw2 => ?_) (fun m hm => by simp only [List.length_nil] at hm; omega) ?_
    · rcases Nat.eq_zero_or_pos fs.length with h0 | h0
      · exact .inl (List.eq_nil_of_length_eq_zero (by rw [fcells_len hok, h0]))
      · exact .inr ⟨bb, oo, hA h0, hw2.cellsI hc (by simp)⟩
    rw [List.nil_append]
    intro v2 Lr hrow
    rw [List.append_nil]
    obtain ⟨A2, m2, cp2, rfl, hm2, _, _⟩ := hrow.slice (by decide)
    obtain rfl : m2 = fs.length := by rw [fcells_len hok] at hm2; omega
    refine RL.assign rfl ?_
    refine RL.nil ?_
    refine X.seq ?_
    refine X.region rfl ?_
    refine RL.move rfl ?_
    refine RL.fn0 rfl rfl rfl en11 (fun w hw => (f_check fs hok hlen A2 cp2 w (row_rd hrow hw (fun p hp => by simp [hp])))) rfl ?_
    rintro _ _ rfl
    refine RL.assign rfl ?_
    refine RL.nil ?_
    refine X.seq ?_
    refine X.seq ?_
    refine X.region rfl ?_
    refine RL.assign rfl ?_
    refine RL.nil ?_
    refine X.block ?_
    refine X.loop (γ := Nat) (fun g ρ L => (g ≤ fs.length) ∧ Has ρ [(0, .slice A fs.length c), (3, .slice A2 fs.length cp2), (4, .int .i64 (checkP fs)), (5, .int .i64 g)] ∧ L = Lr) (fun g => fs.length - g) (0) ⟨_, (by repeat (first | exact List.Sublist.refl _ | exact List.nil_sublist _ | (rw [List.append_nil]; exact List.Sublist.refl _) | exact List.sublist_append_left _ _ | exact (List.sublist_append_left _ _).trans (List.sublist_append_left _ _) | apply List.Sublist.cons_cons | apply List.Sublist.cons | refine List.Sublist.trans ?_ (List.sublist_append_right _ _))), Nat.zero_le _, ⟨rfl, rfl, rfl, rfl, trivial⟩, rfl⟩ ?_
    rintro g _ _ ⟨q1, hρ, rfl⟩
    obtain ⟨base, rfl⟩ := hρ.base
    clear hρ
    refine X.seq ?_
    refine X.seq ?_
    refine X.region rfl ?_
    refine RL.move rfl ?_
    refine RL.move rfl ?_
    refine RL.len rfl sl22 rfl ?_
    refine RL.cmp_s rfl rfl rfl rfl (fun h => ?_) (fun h => ?_)
    · replace h : (_ : Int) < _ := h
      obtain ⟨f, hf⟩ : ∃ f, fs[g]? = some f := ⟨_, List.getElem?_eq_getElem (by omega)⟩
      have hfo := hok f (List.mem_of_getElem? hf)
      obtain ⟨b2, junk, rfl, rfl⟩ := hrow.open (by omega)
      refine RL.nil ?_
      refine X.cond_t rfl ?_
      refine X.skip ?_
      refine X.seq ?_
      refine X.block ?_
      refine X.seq ?_
      refine X.draw (by kernel_rfl) (by kernel_rfl) ?_
      refine RL.move rfl ?_
      refine RL.move rfl ?_
      refine RL.indexAddr rfl sl22 rfl rfl rfl rfl (by omega) ?_
      refine RL.loadOA rfl ag30 rfl (own_face hok hf) (Face.len hfo) ?_
      refine RL.move rfl ?_
      refine RL.move rfl ?_
      refine RL.indexAddr rfl sl22 rfl rfl (hA (by omega)) rfl (by omega) ?_
      refine RL.loadIA rfl ag30 rfl (face_at hc hok hf) (by simp) (Face.len hfo) ?_
      refine RL.neA rfl eqg_face rfl rfl (eq_face hfo hfo) (fun hh => ?_) (fun hh => ?_)
      · skip
        exact absurd rfl hh
      · skip
        refine RL.nil ?_
        refine X.cond_f rfl ?_
        refine X.skip ?_
        refine X.blk ?_
        refine X.region rfl ?_
        refine RL.move rfl ?_
        refine RL.add rfl rfl rfl (by omega) ?_
        refine RL.assign rfl ?_
        refine RL.nil ?_
        refine X.hyp ⟨rfl, g + 1, by omega, _, (by repeat (first | exact List.Sublist.refl _ | exact List.nil_sublist _ | (rw [List.append_nil]; exact List.Sublist.refl _) | exact List.sublist_append_left _ _ | exact (List.sublist_append_left _ _).trans (List.sublist_append_left _ _) | apply List.Sublist.cons_cons | apply List.Sublist.cons | refine List.Sublist.trans ?_ (List.sublist_append_right _ _))), by omega, ⟨rfl, rfl, rfl, rfl, trivial⟩, rfl⟩
    · replace h : ¬ ((_ : Int) < _) := h
      refine RL.nil ?_
      refine X.cond_f rfl ?_
      refine X.exit rfl ?_
      refine X.seq ?_
      refine X.region rfl ?_
      refine RL.move rfl ?_
      refine RL.move rfl ?_
      refine RL.fn0 rfl rfl rfl en12 (fun w hw => (f_rcheck fs hok hlen A c w (hrd1.st0 hw))) rfl ?_
      rintro _ _ rfl
      refine RL.cmp_t rfl rfl rfl rfl (by show ((_ : Int) = _); rfl) ?_
      refine RL.move rfl ?_
      refine RL.fn0 rfl rfl rfl en10 (fun w hw => (f_awake w)) rfl ?_
      rintro _ _ rfl
      refine RL.pick_t rfl rfl ?_
      refine RL.assign rfl ?_
      refine RL.nil ?_
      refine X.ret ?_
      refine ret1 rfl ?_
      show (_ : Value) = _
      rfl
end Go.Proofs.Ytjaibkfmkhfjfaa

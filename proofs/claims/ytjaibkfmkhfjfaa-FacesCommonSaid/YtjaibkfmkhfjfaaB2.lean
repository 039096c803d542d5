/- The walks of FacesPrefix and FacesCommon. -/
import Derived.Test.YtjaibkfmkhfjfaaA6
set_option linter.unusedVariables false
set_option linter.unusedSimpArgs false
namespace Go.Proofs.Ytjaibkfmkhfjfaa
open Go.RowKit
attribute [local irreducible] X RL W Ctr
theorem w_prefix (fs : List Face) (hok : ∀ f ∈ fs, FaceOk f) (hmax : fs.length ≤ 9223372036854775807) (A : Option Addr) (c : Nat) (hcap : fs.length ≤ c) (w : World) (hrd : Rd w A (fcells fs)) (cut i : Int) :
    Ctr Try.prog 5 [.slice A fs.length c, .int .i64 cut, .int .i64 i] w [] fun v _ => v = .bool true := by
  have hrd1 := hrd
  obtain ⟨bb, oo, hA0, hc⟩ := hrd
  have hA : 0 < fs.length → A = some ⟨bb, oo, none⟩ := fun h => hA0 (by rw [fcells_len hok]; omega)
  refine Ctr.intro0 (n := 43) Try.func5 rfl Try.ntmps5 (Nat.le_of_ble_eq_true rfl) ?_
  refine X.seq ?_
  refine X.region rfl ?_
  refine RL.assign rfl ?_
  refine RL.nil ?_
  refine X.seq ?_
  refine X.seq ?_
  refine X.region rfl ?_
  refine RL.move rfl ?_
  rcases Nat.lt_or_ge 60 fs.length with hg | hg
  · refine RL.fn0 rfl rfl rfl en9 (fun w hw => (f_great A fs.length c w hmax).toT hg) rfl ?_
    rintro _ _ rfl
    refine RL.move rfl ?_
    refine RL.skip rfl ?_
    refine RL.skip rfl ?_
    refine RL.skip rfl ?_
    refine RL.pick_t rfl rfl ?_
    refine RL.nil ?_
    refine X.cond_t rfl ?_
    refine X.seq ?_
    refine X.region rfl ?_
    refine RL.fn0 rfl rfl rfl en10 (fun w hw => (f_awake w)) rfl ?_
    rintro _ _ rfl
    refine RL.assign rfl ?_
    refine RL.nil ?_
    refine X.ret ?_
    refine ret1 rfl ?_
    show (_ : Value) = _
    rfl
  · have hlen : fs.length ≤ 1000 := by omega
    refine RL.fn0 rfl rfl rfl en9 (fun w hw => (f_great A fs.length c w hmax).toF (by omega)) rfl ?_
    rintro _ _ rfl
    refine RL.move rfl ?_
    refine RL.move rfl ?_
    refine RL.fn0 rfl rfl rfl en11 (fun w hw => (f_check fs hok hlen A c w (hrd1.st0 hw))) rfl ?_
    rintro _ _ rfl
    refine RL.cmp_s rfl rfl rfl rfl (fun hr => ?_) (fun hr => ?_)
    · replace hr : (_ : Int) ≠ _ := hr
      refine RL.pick_f rfl rfl ?_
      refine RL.nil ?_
      refine X.cond_t rfl ?_
      refine X.seq ?_
      refine X.region rfl ?_
      refine RL.fn0 rfl rfl rfl en10 (fun w hw => (f_awake w)) rfl ?_
      rintro _ _ rfl
      refine RL.assign rfl ?_
      refine RL.nil ?_
      refine X.ret ?_
      refine ret1 rfl ?_
      show (_ : Value) = _
      rfl
    · replace hr : ¬ ((_ : Int) ≠ _) := hr
      have hR : Right fs := right_iff.1 (Decidable.not_not.1 hr)
      have h1 := hR.one
      have h2 := hR.most
      obtain rfl := hA (by omega)
      refine RL.pick_f rfl rfl ?_
      refine RL.nil ?_
      refine X.cond_f rfl ?_
      refine X.skip ?_
      refine X.seq ?_
      refine X.region rfl ?_
      refine RL.move rfl ?_
      refine RL.move rfl ?_
      refine RL.len rfl sl22 rfl ?_
      refine RL.fn0 rfl rfl rfl en14 (fun w hw => (f_pick cut fs.length w (by omega) (by omega)).mono (fun v L h => (by obtain ⟨q, h1, h2⟩ := pick_some (x := cut) (n := fs.length) (by omega); exact ⟨q, by rw [h, h1], h2⟩ : ∃ q : Nat, v = .int .i64 (q : Int) ∧ q < fs.length))) rfl ?_
      rintro _ _ ⟨q, rfl, hq⟩
      refine RL.add rfl rfl rfl (by omega) ?_
      refine RL.assign rfl ?_
      refine RL.nil ?_
      refine X.seq ?_
      refine X.region rfl ?_
      refine RL.move rfl ?_
      refine RL.move rfl ?_
      refine RL.fn0 rfl rfl rfl en14 (fun w hw => (f_pick i (1 + (q : Int)) w (by omega) (by omega)).mono (fun v L h => (by obtain ⟨q2, h1, h2⟩ := pick_some (x := i) (n := q + 1) (by omega); exact ⟨q2, by rw [h, show (1 + (q : Int)) = ((q + 1 : Nat) : Int) by omega, h1], h2⟩ : ∃ r : Nat, v = .int .i64 (r : Int) ∧ r < q + 1))) rfl ?_
      rintro _ _ ⟨r, rfl, hr2⟩
      refine RL.assign rfl ?_
      refine RL.nil ?_
      refine X.seq ?_
      refine X.region rfl ?_
      refine RL.move rfl ?_
      refine RL.move rfl ?_
      refine RL.sliceHi1 (j := (fs.take (q + 1)).length) rfl sl22 rfl rfl (by rw [List.length_take]; omega) (by rw [List.length_take]; omega) (by omega) ?_
      refine RL.fn0 rfl rfl rfl en11 (fun w hw => (f_check (fs.take (q + 1)) (ok_take hok) (by rw [List.length_take]; omega) (some ⟨bb, oo, none⟩) c w (rd_take (hrd1.st0 hw))).mono (fun v L h => (by rw [right_iff.2 (hR.take (k := q + 1) (by omega))] at h; exact h : v = .int .i64 0))) rfl ?_
      rintro _ _ rfl
      refine RL.cmp_t rfl rfl rfl rfl (by show ((_ : Int) = _); rfl) ?_
      refine RL.move rfl ?_
      refine RL.move rfl ?_
      refine RL.move rfl ?_
      refine RL.sliceHi1 (j := (fs.take (q + 1)).length) rfl sl22 rfl rfl (by rw [List.length_take]; omega) (by rw [List.length_take]; omega) (by omega) ?_
      refine RL.move rfl ?_
      refine RL.fn0 rfl rfl rfl en16 (fun w hw => (f_lline (fs.take (q + 1)) (ok_take hok) (by rw [List.length_take]; omega) (some ⟨bb, oo, none⟩) c w (rd_take (hrd1.st0 hw)) (r : Int) 99).mono (fun v L h => (by rw [hR.line_take (by omega) r hr2] at h; exact h : SRow v ((lineP fs (r : Int)).take 99) L))) rfl ?_
      rintro _ _ ⟨L1, hs1, A2, cp2, rfl, hrow2⟩
      refine RL.drop rfl (hs1.append (List.Sublist.refl _)) ?_
      refine RL.move rfl ?_
      refine RL.move rfl ?_
      refine RL.fn0 rfl rfl rfl en16 (fun w hw => (f_lline fs hok hlen (some ⟨bb, oo, none⟩) c w (hrd1.st0 hw) (r : Int) 99)) rfl ?_
      rintro _ _ ⟨L2, hs2, A3, cp3, rfl, hrow3⟩
      refine RL.drop rfl (hs2.append (List.Sublist.refl _)) ?_
      refine RL.fn0 rfl rfl rfl en15 (fun w hw => (f_same _ _ A2 A3 cp2 cp3 w (by have := lineP_len fs (r : Int); rw [List.length_take]; omega) (by have := lineP_len fs (r : Int); rw [List.length_take]; omega) (row_rd hrow2 hw (fun p hp => by simp [hp])) (row_rd hrow3 hw (fun p hp => by simp [hp]))).mono (fun v L h => (by rw [h, decide_eq_true rfl] : v = .bool true))) rfl ?_
      rintro _ _ rfl
      refine RL.pick_t rfl rfl ?_
      refine RL.move rfl ?_
      refine RL.fn0 rfl rfl rfl en10 (fun w hw => (f_awake w)) rfl ?_
      rintro _ _ rfl
      refine RL.pick_t rfl rfl ?_
      refine RL.assign rfl ?_
      refine RL.nil ?_
      refine X.ret ?_
      refine ret1 rfl ?_
      show (_ : Value) = _
      rfl
theorem w_common (fs : List Face) (hok : ∀ f ∈ fs, FaceOk f) (hmax : fs.length ≤ 9223372036854775807) (A : Option Addr) (c : Nat) (hcap : fs.length ≤ c) (w : World) (hrd : Rd w A (fcells fs)) (i j : Int) (near : Bool) :
    Ctr Try.prog 6 [.slice A fs.length c, .int .i64 i, .int .i64 j, .bool near] w [] fun v _ => v = .bool true := by
  have hrd1 := hrd
  obtain ⟨bb, oo, hA0, hc⟩ := hrd
  have hA : 0 < fs.length → A = some ⟨bb, oo, none⟩ := fun h => hA0 (by rw [fcells_len hok]; omega)
  refine Ctr.intro0 (n := 70) Try.func6 rfl Try.ntmps6 (Nat.le_of_ble_eq_true rfl) ?_
  refine X.seq ?_
  refine X.region rfl ?_
  refine RL.assign rfl ?_
  refine RL.nil ?_
  refine X.seq ?_
  refine X.seq ?_
  refine X.region rfl ?_
  refine RL.move rfl ?_
  refine RL.fn0 rfl rfl rfl en9 (fun w hw => (f_great A fs.length c w hmax)) rfl ?_
  rintro _ _ rfl
  refine RL.nil ?_
  refine X.cond_s rfl (fun hg => ?_) (fun hg => ?_)
  · refine X.seq ?_
    refine X.region rfl ?_
    refine RL.fn0 rfl rfl rfl en10 (fun w hw => (f_awake w)) rfl ?_
    rintro _ _ rfl
    refine RL.assign rfl ?_
    refine RL.nil ?_
    refine X.ret ?_
    refine ret1 rfl ?_
    show (_ : Value) = _
    rfl
  · have hlen : fs.length ≤ 1000 := by omega
    refine X.skip ?_
    refine X.seq ?_
    refine X.seq ?_
    refine X.region rfl ?_
    refine RL.move rfl ?_
    refine RL.nil ?_
    refine X.cut (fun ρ ds L => ds = [] ∧ ∃ i2 j2 : Int, Has ρ [(0, .slice A fs.length c), (1, .int .i64 i2), (2, .int .i64 j2)] ∧ True) ?_ ?_
    · refine X.cond_b rfl (fun hn => ?_) (fun hn => ?_)
      · refine X.region rfl ?_
        refine RL.move rfl ?_
        refine RL.move rfl ?_
        refine RL.len rfl sl22 rfl ?_
        refine RL.fn0 rfl rfl rfl en14 (fun w hw => (f_pick i fs.length w (by omega) (by omega))) rfl ?_
        rintro _ _ rfl
        refine RL.move rfl ?_
        refine RL.move rfl ?_
        refine RL.len rfl sl22 rfl ?_
        refine RL.fn0 rfl rfl rfl en14 (fun w hw => (f_pick j fs.length w (by omega) (by omega))) rfl ?_
        rintro _ _ rfl
        refine RL.assign rfl ?_
        refine RL.assign rfl ?_
        refine RL.nil ?_
        exact X.hyp ⟨rfl, _, _, ⟨rfl, rfl, rfl, trivial⟩, trivial⟩
      · refine X.skip ?_
        exact X.hyp ⟨rfl, _, _, ⟨rfl, rfl, rfl, trivial⟩, trivial⟩
    · rintro ρ2 _ L2 ⟨rfl, i, j, hρ, _⟩
      obtain ⟨base, rfl⟩ := hρ.base
      clear hρ
      have hm : ∀ a, commonP fs i j = some a → 0 ≤ a := fun a h => (lineP_mem (List.mem_of_find?_eq_some h)).1
      rcases hcc : commonP fs i j with _ | a
      · refine X.seq ?_
        refine X.region rfl ?_
        refine RL.move rfl ?_
        refine RL.move rfl ?_
        refine RL.move rfl ?_
        refine RL.fn0 rfl rfl rfl en17 (fun w hw => (f_common fs hok hlen A c w (hrd1.st0 hw) i j).mono (fun v L h => (by rw [hcc] at h; exact h : v = .tuple #[.int .i64 0, .int .i64 7]))) rfl ?_
        rintro _ _ rfl
        refine RL.move rfl ?_
        refine RL.extract rfl rfl rfl ?_
        refine RL.extract rfl rfl rfl ?_
        refine RL.assign rfl ?_
        refine RL.assign rfl ?_
        refine RL.nil ?_
        refine X.seq ?_
        refine X.region rfl ?_
        refine RL.move rfl ?_
        refine RL.move rfl ?_
        refine RL.move rfl ?_
        refine RL.fn0 rfl rfl rfl en18 (fun w hw => (f_rcommon fs hok hlen A c w (hrd1.st0 hw) i j).mono (fun v L h => (by rw [hcc] at h; exact h : v = .int .i64 (-1)))) rfl ?_
        rintro _ _ rfl
        refine RL.assign rfl ?_
        refine RL.nil ?_
        refine X.seq ?_
        refine X.seq ?_
        refine X.region rfl ?_
        refine RL.move rfl ?_
        refine RL.cmp_t rfl rfl rfl rfl (by show ((_ : Int) < _); decide) ?_
        refine RL.move rfl ?_
        refine RL.move rfl ?_
        refine RL.cmp_f rfl rfl rfl rfl (by show ¬ ((_ : Int) ≠ _); exact fun h => h rfl) ?_
        refine RL.move rfl ?_
        refine RL.move rfl ?_
        refine RL.cmp_f rfl rfl rfl rfl (by show ¬ ((_ : Int) ≠ _); exact fun h => h rfl) ?_
        refine RL.pick_f rfl rfl ?_
        refine RL.pick_t rfl rfl ?_
        refine RL.move rfl ?_
        refine RL.move rfl ?_
        refine RL.cmp_f rfl rfl rfl rfl (by show ¬ ((_ : Int) ≥ _); decide) ?_
        refine RL.move rfl ?_
        refine RL.skip rfl ?_
        refine RL.skip rfl ?_
        refine RL.skip rfl ?_
        refine RL.skip rfl ?_
        refine RL.skip rfl ?_
        refine RL.skip rfl ?_
        refine RL.skip rfl ?_
        refine RL.pick_f rfl rfl ?_
        refine RL.pick_f rfl rfl ?_
        refine RL.nil ?_
        refine X.cond_f rfl ?_
        refine X.skip ?_
        refine X.seq ?_
        refine X.region rfl ?_
        refine RL.move rfl ?_
        refine RL.move rfl ?_
        refine RL.move rfl ?_
        refine RL.fn0 rfl rfl rfl en19 (fun w hw => (f_is fs hok hlen A c w (hrd1.st0 hw) i j)) rfl ?_
        rintro _ _ rfl
        refine RL.move rfl ?_
        refine RL.move rfl ?_
        refine RL.move rfl ?_
        refine RL.fn0 rfl rfl rfl en20 (fun w hw => (f_ris fs hok hlen A c w (hrd1.st0 hw) i j)) rfl ?_
        rintro _ _ rfl
        refine RL.eqB rfl Try.underlying4 rfl rfl ?_
        rw [show (isP fs i j == isP fs i j) = true from by cases isP fs i j <;> rfl]
        refine RL.move rfl ?_
        refine RL.fn0 rfl rfl rfl en10 (fun w hw => (f_awake w)) rfl ?_
        rintro _ _ rfl
        refine RL.pick_t rfl rfl ?_
        refine RL.assign rfl ?_
        refine RL.nil ?_
        refine X.ret ?_
        refine ret1 rfl ?_
        show (_ : Value) = _
        rfl
      · have ha := hm a hcc
        refine X.seq ?_
        refine X.region rfl ?_
        refine RL.move rfl ?_
        refine RL.move rfl ?_
        refine RL.move rfl ?_
        refine RL.fn0 rfl rfl rfl en17 (fun w hw => (f_common fs hok hlen A c w (hrd1.st0 hw) i j).mono (fun v L h => (by rw [hcc] at h; exact h : v = .tuple #[.int .i64 a, .int .i64 0]))) rfl ?_
        rintro _ _ rfl
        refine RL.move rfl ?_
        refine RL.extract rfl rfl rfl ?_
        refine RL.extract rfl rfl rfl ?_
        refine RL.assign rfl ?_
        refine RL.assign rfl ?_
        refine RL.nil ?_
        refine X.seq ?_
        refine X.region rfl ?_
        refine RL.move rfl ?_
        refine RL.move rfl ?_
        refine RL.move rfl ?_
        refine RL.fn0 rfl rfl rfl en18 (fun w hw => (f_rcommon fs hok hlen A c w (hrd1.st0 hw) i j).mono (fun v L h => (by rw [hcc] at h; exact h : v = .int .i64 a))) rfl ?_
        rintro _ _ rfl
        refine RL.assign rfl ?_
        refine RL.nil ?_
        refine X.seq ?_
        refine X.seq ?_
        refine X.region rfl ?_
        refine RL.move rfl ?_
        refine RL.cmp_f rfl rfl rfl rfl (by show ¬ ((_ : Int) < _); omega) ?_
        refine RL.move rfl ?_
        refine RL.skip rfl ?_
        refine RL.skip rfl ?_
        refine RL.skip rfl ?_
        refine RL.skip rfl ?_
        refine RL.skip rfl ?_
        refine RL.skip rfl ?_
        refine RL.pick_f rfl rfl ?_
        refine RL.move rfl ?_
        refine RL.move rfl ?_
        refine RL.cmp_t rfl rfl rfl rfl (by show ((_ : Int) ≥ _); omega) ?_
        refine RL.move rfl ?_
        refine RL.move rfl ?_
        refine RL.cmp_f rfl rfl rfl rfl (by show ¬ ((_ : Int) ≠ _); exact fun h => h rfl) ?_
        refine RL.move rfl ?_
        refine RL.move rfl ?_
        refine RL.move rfl ?_
        refine RL.cmp_f rfl rfl rfl rfl (by show ¬ ((_ : Int) ≠ _); exact fun h => h rfl) ?_
        refine RL.pick_f rfl rfl ?_
        refine RL.pick_t rfl rfl ?_
        refine RL.pick_f rfl rfl ?_
        refine RL.nil ?_
        refine X.cond_f rfl ?_
        refine X.skip ?_
        refine X.seq ?_
        refine X.region rfl ?_
        refine RL.move rfl ?_
        refine RL.move rfl ?_
        refine RL.move rfl ?_
        refine RL.fn0 rfl rfl rfl en19 (fun w hw => (f_is fs hok hlen A c w (hrd1.st0 hw) i j)) rfl ?_
        rintro _ _ rfl
        refine RL.move rfl ?_
        refine RL.move rfl ?_
        refine RL.move rfl ?_
        refine RL.fn0 rfl rfl rfl en20 (fun w hw => (f_ris fs hok hlen A c w (hrd1.st0 hw) i j)) rfl ?_
        rintro _ _ rfl
        refine RL.eqB rfl Try.underlying4 rfl rfl ?_
        rw [show (isP fs i j == isP fs i j) = true from by cases isP fs i j <;> rfl]
        refine RL.move rfl ?_
        refine RL.fn0 rfl rfl rfl en10 (fun w hw => (f_awake w)) rfl ?_
        rintro _ _ rfl
        refine RL.pick_t rfl rfl ?_
        refine RL.assign rfl ?_
        refine RL.nil ?_
        refine X.ret ?_
        refine ret1 rfl ?_
        show (_ : Value) = _
        rfl
end Go.Proofs.Ytjaibkfmkhfjfaa

/- The walk of FacesRight. -/
import Derived.Test.YtjaibkfmkhfjfaaA6
set_option linter.unusedVariables false
set_option linter.unusedSimpArgs false
namespace Go.Proofs.Ytjaibkfmkhfjfaa
open Go.RowKit
attribute [local irreducible] X RL W Ctr
theorem w_right (fs : List Face) (hok : ∀ f ∈ fs, FaceOk f) (hmax : fs.length ≤ 9223372036854775807) (A : Option Addr) (c : Nat) (hcap : fs.length ≤ c) (w : World) (hrd : Rd w A (fcells fs)) (i j k : Int) :
    Ctr Try.prog 7 [.slice A fs.length c, .int .i64 i, .int .i64 j, .int .i64 k] w [] fun v _ => v = .bool true := by
  have hrd1 := hrd
  obtain ⟨bb, oo, hA0, hc⟩ := hrd
  have hA : 0 < fs.length → A = some ⟨bb, oo, none⟩ := fun h => hA0 (by rw [fcells_len hok]; omega)
  refine Ctr.intro0 (n := 154) Try.func7 rfl Try.ntmps7 (Nat.le_of_ble_eq_true rfl) ?_
  refine X.seq ?_
  refine X.region rfl ?_
  refine RL.assign rfl ?_
  refine RL.nil ?_
  refine X.seq ?_
  refine X.seq ?_
  refine X.region rfl ?_
  refine RL.move rfl ?_
  rcases Nat.lt_or_ge 60 fs.length with hg | hg
  · refine RL.fn0 rfl rfl rfl en9 (fun w hw => (f_great A fs.length c w hmax).toT hg) rfl ?_
    rintro _ _ rfl
    refine RL.move rfl ?_
    refine RL.skip rfl ?_
    refine RL.skip rfl ?_
    refine RL.skip rfl ?_
    refine RL.pick_t rfl rfl ?_
    refine RL.nil ?_
    refine X.cond_t rfl ?_
    refine X.seq ?_
    refine X.region rfl ?_
    refine RL.fn0 rfl rfl rfl en10 (fun w hw => (f_awake w)) rfl ?_
    rintro _ _ rfl
    refine RL.assign rfl ?_
    refine RL.nil ?_
    refine X.ret ?_
    refine ret1 rfl ?_
    show (_ : Value) = _
    rfl
  · have hlen : fs.length ≤ 1000 := by omega
    refine RL.fn0 rfl rfl rfl en9 (fun w hw => (f_great A fs.length c w hmax).toF (by omega)) rfl ?_
    rintro _ _ rfl
    refine RL.move rfl ?_
    refine RL.move rfl ?_
    refine RL.fn0 rfl rfl rfl en11 (fun w hw => (f_check fs hok hlen A c w (hrd1.st0 hw))) rfl ?_
    rintro _ _ rfl
    refine RL.cmp_s rfl rfl rfl rfl (fun hr => ?_) (fun hr => ?_)
    · replace hr : (_ : Int) ≠ _ := hr
      refine RL.pick_f rfl rfl ?_
      refine RL.nil ?_
      refine X.cond_t rfl ?_
      refine X.seq ?_
      refine X.region rfl ?_
      refine RL.fn0 rfl rfl rfl en10 (fun w hw => (f_awake w)) rfl ?_
      rintro _ _ rfl
      refine RL.assign rfl ?_
      refine RL.nil ?_
      refine X.ret ?_
      refine ret1 rfl ?_
      show (_ : Value) = _
      rfl
    · replace hr : ¬ ((_ : Int) ≠ _) := hr
      have hR : Right fs := right_iff.1 (Decidable.not_not.1 hr)
      have h1 := hR.one
      have h2 := hR.most
      refine RL.pick_f rfl rfl ?_
      refine RL.nil ?_
      refine X.cond_f rfl ?_
      refine X.skip ?_
      refine X.seq ?_
      refine X.region rfl ?_
      refine RL.move rfl ?_
      refine RL.move rfl ?_
      refine RL.len rfl sl22 rfl ?_
      refine RL.fn0 rfl rfl rfl en14 (fun w hw => (f_pick i fs.length w (by omega) (by omega)).mono (fun v L h => (by obtain ⟨q, h1, h2⟩ := pick_some (x := i) (n := fs.length) (by omega); exact ⟨q, by rw [h, h1], h2⟩ : ∃ q : Nat, v = .int .i64 (q : Int) ∧ q < fs.length))) rfl ?_
      rintro _ _ ⟨q1, rfl, hq1⟩
      refine RL.move rfl ?_
      refine RL.move rfl ?_
      refine RL.len rfl sl22 rfl ?_
      refine RL.fn0 rfl rfl rfl en14 (fun w hw => (f_pick j fs.length w (by omega) (by omega)).mono (fun v L h => (by obtain ⟨q, h1, h2⟩ := pick_some (x := j) (n := fs.length) (by omega); exact ⟨q, by rw [h, h1], h2⟩ : ∃ q : Nat, v = .int .i64 (q : Int) ∧ q < fs.length))) rfl ?_
      rintro _ _ ⟨q2, rfl, hq2⟩
      refine RL.move rfl ?_
      refine RL.move rfl ?_
      refine RL.len rfl sl22 rfl ?_
      refine RL.fn0 rfl rfl rfl en14 (fun w hw => (f_pick k fs.length w (by omega) (by omega)).mono (fun v L h => (by obtain ⟨q, h1, h2⟩ := pick_some (x := k) (n := fs.length) (by omega); exact ⟨q, by rw [h, h1], h2⟩ : ∃ q : Nat, v = .int .i64 (q : Int) ∧ q < fs.length))) rfl ?_
      rintro _ _ ⟨q3, rfl, hq3⟩
      refine RL.assign rfl ?_
      refine RL.assign rfl ?_
      refine RL.assign rfl ?_
      refine RL.nil ?_
      refine X.seq ?_
      refine X.region rfl ?_
      refine RL.move rfl ?_
      refine RL.move rfl ?_
      refine RL.fn0 rfl rfl rfl en16 (fun w hw => (f_lline fs hok hlen A c w (hrd1.st0 hw) (q1 : Int) 99).mono (fun v L h => (by rw [List.take_of_length_le (by have := lineP_len fs (q1 : Int); omega)] at h; exact h : SRow v (lineP fs (q1 : Int)) L))) rfl ?_
      rintro _ _ ⟨L1, hs1, A2, cp2, rfl, hrow⟩
      refine RL.drop rfl (hs1.append (List.Sublist.refl _)) ?_
      have hlong := hR.long hq1
      have hll := lineP_len fs (q1 : Int)
      obtain ⟨b, junk, rfl, rfl⟩ := hrow.open (by omega)
      refine RL.assign rfl ?_
      refine RL.nil ?_
      refine X.seq ?_
      refine X.seq ?_
      refine X.region rfl ?_
      refine RL.move rfl ?_
      refine RL.len rfl sl32 rfl ?_
      refine RL.cmp_f rfl rfl rfl rfl (by show ¬ ((_ : Int) = _); omega) ?_
      refine RL.move rfl ?_
      refine RL.move rfl ?_
      refine RL.indexAddr rfl sl32 rfl rfl rfl (show (0 : Int) = ((0 : Nat) : Int) from rfl) (by omega) ?_
      refine RL.loadO rfl sc3 rfl (ints_app_get (hR.first hq1)) ?_
      refine RL.move rfl ?_
      refine RL.cmp_f rfl rfl rfl rfl (by show ¬ ((_ : Int) ≠ _); exact fun h => h rfl) ?_
      refine RL.pick_f rfl rfl ?_
      refine RL.move rfl ?_
      refine RL.move rfl ?_
      refine RL.move rfl ?_
      refine RL.len rfl sl32 rfl ?_
      refine RL.sub rfl rfl rfl (by omega) ?_
      refine RL.indexAddr rfl sl32 rfl rfl rfl (show ((lineP fs (q1 : Int)).length : Int) - 1 = (((lineP fs (q1 : Int)).length - 1 : Nat) : Int) by omega) (by omega) ?_
      refine RL.loadO rfl sc3 rfl (ints_app_get (hR.last hq1)) ?_
      refine RL.cmp_f rfl rfl rfl rfl (by show ¬ ((_ : Int) ≠ _); exact fun h => h rfl) ?_
      refine RL.pick_f rfl rfl ?_
      refine RL.nil ?_
      refine X.cond_f rfl ?_
      refine X.skip ?_
      refine X.seq ?_
      refine X.seq ?_
      refine X.region rfl ?_
      refine RL.assign rfl ?_
      refine RL.nil ?_
      refine X.block ?_
      refine X.loop (γ := Nat) (fun g ρ L => (1 ≤ g) ∧ Has ρ [(0, .slice A fs.length c), (1, .int .i64 q1), (2, .int .i64 q2), (3, .int .i64 q3), (9, .slice (some ⟨b, 0, none⟩) (lineP fs (q1 : Int)).length cp2), (10, .int .i64 g)] ∧ L = [(b, cel 3 (ints (lineP fs (q1 : Int)) ++ junk))]) (fun g => (lineP fs (q1 : Int)).length - g) (1) ⟨_, (by repeat (first | exact List.Sublist.refl _ | exact List.nil_sublist _ | (rw [List.append_nil]; exact List.Sublist.refl _) | exact List.sublist_append_left _ _ | exact (List.sublist_append_left _ _).trans (List.sublist_append_left _ _) | apply List.Sublist.cons_cons | apply List.Sublist.cons | refine List.Sublist.trans ?_ (List.sublist_append_right _ _))), Nat.le_refl _, ⟨rfl, rfl, rfl, rfl, rfl, rfl, trivial⟩, rfl⟩ ?_
      rintro g _ _ ⟨hg1, hρ, rfl⟩
      obtain ⟨base, rfl⟩ := hρ.base
      clear hρ
      refine X.seq ?_
      refine X.seq ?_
      refine X.region rfl ?_
      refine RL.move rfl ?_
      refine RL.move rfl ?_
      refine RL.len rfl sl32 rfl ?_
      refine RL.cmp_s rfl rfl rfl rfl (fun h => ?_) (fun h => ?_)
      · replace h : (_ : Int) < _ := h
        obtain ⟨a, ha⟩ : ∃ a, (lineP fs (q1 : Int))[g]? = some a := ⟨_, List.getElem?_eq_getElem (by omega)⟩
        obtain ⟨a2, ha2⟩ : ∃ a, (lineP fs (q1 : Int))[g - 1]? = some a := ⟨_, List.getElem?_eq_getElem (by omega)⟩
        have hdn := hR.down hq1 hg1 ha ha2
        refine RL.nil ?_
        refine X.cond_t rfl ?_
        refine X.skip ?_
        refine X.seq ?_
        refine X.block ?_
        refine X.seq ?_
        refine X.draw (by kernel_rfl) (by kernel_rfl) ?_
        refine RL.move rfl ?_
        refine RL.move rfl ?_
        refine RL.indexAddr rfl sl32 rfl rfl rfl rfl (by omega) ?_
        refine RL.loadO rfl sc3 rfl (ints_app_get ha) ?_
        refine RL.move rfl ?_
        refine RL.move rfl ?_
        refine RL.sub rfl rfl rfl (by omega) ?_
        refine RL.indexAddr rfl sl32 rfl rfl rfl (show (g : Int) - 1 = ((g - 1 : Nat) : Int) by omega) (by omega) ?_
        refine RL.loadO rfl sc3 rfl (ints_app_get ha2) ?_
        refine RL.cmp_f rfl rfl rfl rfl (by show ¬ ((_ : Int) ≥ _); omega) ?_
        refine RL.nil ?_
        refine X.cond_f rfl ?_
        refine X.skip ?_
        refine X.blk ?_
        refine X.region rfl ?_
        refine RL.move rfl ?_
        refine RL.add rfl rfl rfl (by omega) ?_
        refine RL.assign rfl ?_
        refine RL.nil ?_
        refine X.hyp ⟨rfl, g + 1, by omega, _, (by repeat (first | exact List.Sublist.refl _ | exact List.nil_sublist _ | (rw [List.append_nil]; exact List.Sublist.refl _) | exact List.sublist_append_left _ _ | exact (List.sublist_append_left _ _).trans (List.sublist_append_left _ _) | apply List.Sublist.cons_cons | apply List.Sublist.cons | refine List.Sublist.trans ?_ (List.sublist_append_right _ _))), by omega, ⟨rfl, rfl, rfl, rfl, rfl, rfl, trivial⟩, rfl⟩
      · replace h : ¬ ((_ : Int) < _) := h
        obtain ⟨cc, hc1, hc2, hc3, _⟩ := hR.common hq1 hq2
        have hc4 := hR.common_sym hq1 hq2
        have e11 := isP_true (hR.mem_self hq1)
        rcases e12 : isP fs (q1 : Int) (q2 : Int) with _ | _
        · refine RL.nil ?_
          refine X.cond_f rfl ?_
          refine X.exit rfl ?_
          refine X.seq ?_
          refine X.seq ?_
          refine X.region rfl ?_
          refine RL.move rfl ?_
          refine RL.move rfl ?_
          refine RL.move rfl ?_
          refine RL.fn0 rfl rfl rfl en19 (fun w hw => (f_is fs hok hlen A c w (hrd1.st0 hw) (q1 : Int) (q1 : Int)).mono (fun v L h => (by rw [e11] at h; exact h : v = .bool true))) rfl ?_
          rintro _ _ rfl
          refine RL.not rfl rfl ?_
          refine RL.move rfl ?_
          refine RL.move rfl ?_
          refine RL.move rfl ?_
          refine RL.move rfl ?_
          refine RL.fn0 rfl rfl rfl en19 (fun w hw => (f_is fs hok hlen A c w (hrd1.st0 hw) (q1 : Int) (q2 : Int)).mono (fun v L h => (by rw [e12] at h; exact h : v = .bool false))) rfl ?_
          rintro _ _ rfl
          refine RL.move rfl ?_
          refine RL.skip rfl ?_
          refine RL.skip rfl ?_
          refine RL.skip rfl ?_
          refine RL.skip rfl ?_
          refine RL.pick_f rfl rfl ?_
          refine RL.move rfl ?_
          refine RL.skip rfl ?_
          refine RL.skip rfl ?_
          refine RL.skip rfl ?_
          refine RL.pick_f rfl rfl ?_
          refine RL.pick_f rfl rfl ?_
          refine RL.move rfl ?_
          refine RL.move rfl ?_
          refine RL.move rfl ?_
          refine RL.move rfl ?_
          refine RL.fn0 rfl rfl rfl en19 (fun w hw => (f_is fs hok hlen A c w (hrd1.st0 hw) (q1 : Int) (q2 : Int)).mono (fun v L h => (by rw [e12] at h; exact h : v = .bool false))) rfl ?_
          rintro _ _ rfl
          refine RL.move rfl ?_
          refine RL.skip rfl ?_
          refine RL.skip rfl ?_
          refine RL.skip rfl ?_
          refine RL.skip rfl ?_
          refine RL.pick_f rfl rfl ?_
          refine RL.move rfl ?_
          refine RL.skip rfl ?_
          refine RL.skip rfl ?_
          refine RL.skip rfl ?_
          refine RL.skip rfl ?_
          refine RL.skip rfl ?_
          refine RL.pick_f rfl rfl ?_
          refine RL.pick_f rfl rfl ?_
          refine RL.nil ?_
          refine X.cond_f rfl ?_
          refine X.skip ?_
          refine X.seq ?_
          refine X.region rfl ?_
          refine RL.move rfl ?_
          refine RL.move rfl ?_
          refine RL.move rfl ?_
          refine RL.fn0 rfl rfl rfl en17 (fun w hw => (f_common fs hok hlen A c w (hrd1.st0 hw) (q1 : Int) (q2 : Int)).mono (fun v L h => (by rw [hc1] at h; exact h : v = .tuple #[.int .i64 cc, .int .i64 0]))) rfl ?_
          rintro _ _ rfl
          refine RL.move rfl ?_
          refine RL.extract rfl rfl rfl ?_
          refine RL.extract rfl rfl rfl ?_
          refine RL.assign rfl ?_
          refine RL.assign rfl ?_
          refine RL.nil ?_
          refine X.seq ?_
          refine X.region rfl ?_
          refine RL.move rfl ?_
          refine RL.move rfl ?_
          refine RL.move rfl ?_
          refine RL.fn0 rfl rfl rfl en17 (fun w hw => (f_common fs hok hlen A c w (hrd1.st0 hw) (q2 : Int) (q1 : Int)).mono (fun v L h => (by rw [← hc4, hc1] at h; exact h : v = .tuple #[.int .i64 cc, .int .i64 0]))) rfl ?_
          rintro _ _ rfl
          refine RL.move rfl ?_
          refine RL.extract rfl rfl rfl ?_
          refine RL.extract rfl rfl rfl ?_
          refine RL.assign rfl ?_
          refine RL.assign rfl ?_
          refine RL.nil ?_
          refine X.seq ?_
          refine X.region rfl ?_
          refine RL.move rfl ?_
          refine RL.cmp_t rfl rfl rfl rfl (by show ((_ : Int) = _); rfl) ?_
          refine RL.move rfl ?_
          refine RL.move rfl ?_
          refine RL.cmp_t rfl rfl rfl rfl (by show ((_ : Int) = _); rfl) ?_
          refine RL.pick_t rfl rfl ?_
          refine RL.move rfl ?_
          refine RL.move rfl ?_
          refine RL.move rfl ?_
          refine RL.cmp_t rfl rfl rfl rfl (by show ((_ : Int) = _); rfl) ?_
          refine RL.pick_t rfl rfl ?_
          refine RL.move rfl ?_
          refine RL.move rfl ?_
          refine RL.move rfl ?_
          refine RL.move rfl ?_
          refine RL.fn0 rfl rfl rfl en19 (fun w hw => (f_is fs hok hlen A c w (hrd1.st0 hw) (q1 : Int) (cc : Int)).mono (fun v L h => (by rw [isP_true hc2] at h; exact h : v = .bool true))) rfl ?_
          rintro _ _ rfl
          refine RL.pick_t rfl rfl ?_
          refine RL.move rfl ?_
          refine RL.move rfl ?_
          refine RL.move rfl ?_
          refine RL.move rfl ?_
          refine RL.fn0 rfl rfl rfl en19 (fun w hw => (f_is fs hok hlen A c w (hrd1.st0 hw) (q2 : Int) (cc : Int)).mono (fun v L h => (by rw [isP_true hc3] at h; exact h : v = .bool true))) rfl ?_
          rintro _ _ rfl
          refine RL.pick_t rfl rfl ?_
          refine RL.move rfl ?_
          refine RL.fn0 rfl rfl rfl en10 (fun w hw => (f_awake w)) rfl ?_
          rintro _ _ rfl
          refine RL.pick_t rfl rfl ?_
          refine RL.assign rfl ?_
          refine RL.nil ?_
          refine X.ret ?_
          refine ret1 rfl ?_
          show (_ : Value) = _
          rfl
        · rcases e21 : isP fs (q2 : Int) (q1 : Int) with _ | _
          · rcases e23 : isP fs (q2 : Int) (q3 : Int) with _ | _
            · refine RL.nil ?_
              refine X.cond_f rfl ?_
              refine X.exit rfl ?_
              refine X.seq ?_
              refine X.seq ?_
              refine X.region rfl ?_
              refine RL.move rfl ?_
              refine RL.move rfl ?_
              refine RL.move rfl ?_
              refine RL.fn0 rfl rfl rfl en19 (fun w hw => (f_is fs hok hlen A c w (hrd1.st0 hw) (q1 : Int) (q1 : Int)).mono (fun v L h => (by rw [e11] at h; exact h : v = .bool true))) rfl ?_
              rintro _ _ rfl
              refine RL.not rfl rfl ?_
              refine RL.move rfl ?_
              refine RL.move rfl ?_
              refine RL.move rfl ?_
              refine RL.move rfl ?_
              refine RL.fn0 rfl rfl rfl en19 (fun w hw => (f_is fs hok hlen A c w (hrd1.st0 hw) (q1 : Int) (q2 : Int)).mono (fun v L h => (by rw [e12] at h; exact h : v = .bool true))) rfl ?_
              rintro _ _ rfl
              refine RL.move rfl ?_
              refine RL.move rfl ?_
              refine RL.move rfl ?_
              refine RL.move rfl ?_
              refine RL.fn0 rfl rfl rfl en19 (fun w hw => (f_is fs hok hlen A c w (hrd1.st0 hw) (q2 : Int) (q1 : Int)).mono (fun v L h => (by rw [e21] at h; exact h : v = .bool false))) rfl ?_
              rintro _ _ rfl
              refine RL.pick_t rfl rfl ?_
              refine RL.move rfl ?_
              refine RL.skip rfl ?_
              refine RL.skip rfl ?_
              refine RL.skip rfl ?_
              refine RL.pick_f rfl rfl ?_
              refine RL.pick_f rfl rfl ?_
              refine RL.move rfl ?_
              refine RL.move rfl ?_
              refine RL.move rfl ?_
              refine RL.move rfl ?_
              refine RL.fn0 rfl rfl rfl en19 (fun w hw => (f_is fs hok hlen A c w (hrd1.st0 hw) (q1 : Int) (q2 : Int)).mono (fun v L h => (by rw [e12] at h; exact h : v = .bool true))) rfl ?_
              rintro _ _ rfl
              refine RL.move rfl ?_
              refine RL.move rfl ?_
              refine RL.move rfl ?_
              refine RL.move rfl ?_
              refine RL.fn0 rfl rfl rfl en19 (fun w hw => (f_is fs hok hlen A c w (hrd1.st0 hw) (q2 : Int) (q3 : Int)).mono (fun v L h => (by rw [e23] at h; exact h : v = .bool false))) rfl ?_
              rintro _ _ rfl
              refine RL.pick_t rfl rfl ?_
              refine RL.move rfl ?_
              refine RL.skip rfl ?_
              refine RL.skip rfl ?_
              refine RL.skip rfl ?_
              refine RL.skip rfl ?_
              refine RL.skip rfl ?_
              refine RL.pick_f rfl rfl ?_
              refine RL.pick_f rfl rfl ?_
              refine RL.nil ?_
              refine X.cond_f rfl ?_
              refine X.skip ?_
              refine X.seq ?_
              refine X.region rfl ?_
              refine RL.move rfl ?_
              refine RL.move rfl ?_
              refine RL.move rfl ?_
              refine RL.fn0 rfl rfl rfl en17 (fun w hw => (f_common fs hok hlen A c w (hrd1.st0 hw) (q1 : Int) (q2 : Int)).mono (fun v L h => (by rw [hc1] at h; exact h : v = .tuple #[.int .i64 cc, .int .i64 0]))) rfl ?_
              rintro _ _ rfl
              refine RL.move rfl ?_
              refine RL.extract rfl rfl rfl ?_
              refine RL.extract rfl rfl rfl ?_
              refine RL.assign rfl ?_
              refine RL.assign rfl ?_
              refine RL.nil ?_
              refine X.seq ?_
              refine X.region rfl ?_
              refine RL.move rfl ?_
              refine RL.move rfl ?_
              refine RL.move rfl ?_
              refine RL.fn0 rfl rfl rfl en17 (fun w hw => (f_common fs hok hlen A c w (hrd1.st0 hw) (q2 : Int) (q1 : Int)).mono (fun v L h => (by rw [← hc4, hc1] at h; exact h : v = .tuple #[.int .i64 cc, .int .i64 0]))) rfl ?_
              rintro _ _ rfl
              refine RL.move rfl ?_
              refine RL.extract rfl rfl rfl ?_
              refine RL.extract rfl rfl rfl ?_
              refine RL.assign rfl ?_
              refine RL.assign rfl ?_
              refine RL.nil ?_
              refine X.seq ?_
              refine X.region rfl ?_
              refine RL.move rfl ?_
              refine RL.cmp_t rfl rfl rfl rfl (by show ((_ : Int) = _); rfl) ?_
              refine RL.move rfl ?_
              refine RL.move rfl ?_
              refine RL.cmp_t rfl rfl rfl rfl (by show ((_ : Int) = _); rfl) ?_
              refine RL.pick_t rfl rfl ?_
              refine RL.move rfl ?_
              refine RL.move rfl ?_
              refine RL.move rfl ?_
              refine RL.cmp_t rfl rfl rfl rfl (by show ((_ : Int) = _); rfl) ?_
              refine RL.pick_t rfl rfl ?_
              refine RL.move rfl ?_
              refine RL.move rfl ?_
              refine RL.move rfl ?_
              refine RL.move rfl ?_
              refine RL.fn0 rfl rfl rfl en19 (fun w hw => (f_is fs hok hlen A c w (hrd1.st0 hw) (q1 : Int) (cc : Int)).mono (fun v L h => (by rw [isP_true hc2] at h; exact h : v = .bool true))) rfl ?_
              rintro _ _ rfl
              refine RL.pick_t rfl rfl ?_
              refine RL.move rfl ?_
              refine RL.move rfl ?_
              refine RL.move rfl ?_
              refine RL.move rfl ?_
              refine RL.fn0 rfl rfl rfl en19 (fun w hw => (f_is fs hok hlen A c w (hrd1.st0 hw) (q2 : Int) (cc : Int)).mono (fun v L h => (by rw [isP_true hc3] at h; exact h : v = .bool true))) rfl ?_
              rintro _ _ rfl
              refine RL.pick_t rfl rfl ?_
              refine RL.move rfl ?_
              refine RL.fn0 rfl rfl rfl en10 (fun w hw => (f_awake w)) rfl ?_
              rintro _ _ rfl
              refine RL.pick_t rfl rfl ?_
              refine RL.assign rfl ?_
              refine RL.nil ?_
              refine X.ret ?_
              refine ret1 rfl ?_
              show (_ : Value) = _
              rfl
            · have e13 : isP fs (q1 : Int) (q3 : Int) = true := isP_true (hR.trans q1 hq1 q2 (isP_mem e12) _ (isP_mem e23))
              refine RL.nil ?_
              refine X.cond_f rfl ?_
              refine X.exit rfl ?_
              refine X.seq ?_
              refine X.seq ?_
              refine X.region rfl ?_
              refine RL.move rfl ?_
              refine RL.move rfl ?_
              refine RL.move rfl ?_
              refine RL.fn0 rfl rfl rfl en19 (fun w hw => (f_is fs hok hlen A c w (hrd1.st0 hw) (q1 : Int) (q1 : Int)).mono (fun v L h => (by rw [e11] at h; exact h : v = .bool true))) rfl ?_
              rintro _ _ rfl
              refine RL.not rfl rfl ?_
              refine RL.move rfl ?_
              refine RL.move rfl ?_
              refine RL.move rfl ?_
              refine RL.move rfl ?_
              refine RL.fn0 rfl rfl rfl en19 (fun w hw => (f_is fs hok hlen A c w (hrd1.st0 hw) (q1 : Int) (q2 : Int)).mono (fun v L h => (by rw [e12] at h; exact h : v = .bool true))) rfl ?_
              rintro _ _ rfl
              refine RL.move rfl ?_
              refine RL.move rfl ?_
              refine RL.move rfl ?_
              refine RL.move rfl ?_
              refine RL.fn0 rfl rfl rfl en19 (fun w hw => (f_is fs hok hlen A c w (hrd1.st0 hw) (q2 : Int) (q1 : Int)).mono (fun v L h => (by rw [e21] at h; exact h : v = .bool false))) rfl ?_
              rintro _ _ rfl
              refine RL.pick_t rfl rfl ?_
              refine RL.move rfl ?_
              refine RL.skip rfl ?_
              refine RL.skip rfl ?_
              refine RL.skip rfl ?_
              refine RL.pick_f rfl rfl ?_
              refine RL.pick_f rfl rfl ?_
              refine RL.move rfl ?_
              refine RL.move rfl ?_
              refine RL.move rfl ?_
              refine RL.move rfl ?_
              refine RL.fn0 rfl rfl rfl en19 (fun w hw => (f_is fs hok hlen A c w (hrd1.st0 hw) (q1 : Int) (q2 : Int)).mono (fun v L h => (by rw [e12] at h; exact h : v = .bool true))) rfl ?_
              rintro _ _ rfl
              refine RL.move rfl ?_
              refine RL.move rfl ?_
              refine RL.move rfl ?_
              refine RL.move rfl ?_
              refine RL.fn0 rfl rfl rfl en19 (fun w hw => (f_is fs hok hlen A c w (hrd1.st0 hw) (q2 : Int) (q3 : Int)).mono (fun v L h => (by rw [e23] at h; exact h : v = .bool true))) rfl ?_
              rintro _ _ rfl
              refine RL.pick_t rfl rfl ?_
              refine RL.move rfl ?_
              refine RL.move rfl ?_
              refine RL.move rfl ?_
              refine RL.move rfl ?_
              refine RL.fn0 rfl rfl rfl en19 (fun w hw => (f_is fs hok hlen A c w (hrd1.st0 hw) (q1 : Int) (q3 : Int)).mono (fun v L h => (by rw [e13] at h; exact h : v = .bool true))) rfl ?_
              rintro _ _ rfl
              refine RL.not rfl rfl ?_
              refine RL.pick_t rfl rfl ?_
              refine RL.pick_f rfl rfl ?_
              refine RL.nil ?_
              refine X.cond_f rfl ?_
              refine X.skip ?_
              refine X.seq ?_
              refine X.region rfl ?_
              refine RL.move rfl ?_
              refine RL.move rfl ?_
              refine RL.move rfl ?_
              refine RL.fn0 rfl rfl rfl en17 (fun w hw => (f_common fs hok hlen A c w (hrd1.st0 hw) (q1 : Int) (q2 : Int)).mono (fun v L h => (by rw [hc1] at h; exact h : v = .tuple #[.int .i64 cc, .int .i64 0]))) rfl ?_
              rintro _ _ rfl
              refine RL.move rfl ?_
              refine RL.extract rfl rfl rfl ?_
              refine RL.extract rfl rfl rfl ?_
              refine RL.assign rfl ?_
              refine RL.assign rfl ?_
              refine RL.nil ?_
              refine X.seq ?_
              refine X.region rfl ?_
              refine RL.move rfl ?_
              refine RL.move rfl ?_
              refine RL.move rfl ?_
              refine RL.fn0 rfl rfl rfl en17 (fun w hw => (f_common fs hok hlen A c w (hrd1.st0 hw) (q2 : Int) (q1 : Int)).mono (fun v L h => (by rw [← hc4, hc1] at h; exact h : v = .tuple #[.int .i64 cc, .int .i64 0]))) rfl ?_
              rintro _ _ rfl
              refine RL.move rfl ?_
              refine RL.extract rfl rfl rfl ?_
              refine RL.extract rfl rfl rfl ?_
              refine RL.assign rfl ?_
              refine RL.assign rfl ?_
              refine RL.nil ?_
              refine X.seq ?_
              refine X.region rfl ?_
              refine RL.move rfl ?_
              refine RL.cmp_t rfl rfl rfl rfl (by show ((_ : Int) = _); rfl) ?_
              refine RL.move rfl ?_
              refine RL.move rfl ?_
              refine RL.cmp_t rfl rfl rfl rfl (by show ((_ : Int) = _); rfl) ?_
              refine RL.pick_t rfl rfl ?_
              refine RL.move rfl ?_
              refine RL.move rfl ?_
              refine RL.move rfl ?_
              refine RL.cmp_t rfl rfl rfl rfl (by show ((_ : Int) = _); rfl) ?_
              refine RL.pick_t rfl rfl ?_
              refine RL.move rfl ?_
              refine RL.move rfl ?_
              refine RL.move rfl ?_
              refine RL.move rfl ?_
              refine RL.fn0 rfl rfl rfl en19 (fun w hw => (f_is fs hok hlen A c w (hrd1.st0 hw) (q1 : Int) (cc : Int)).mono (fun v L h => (by rw [isP_true hc2] at h; exact h : v = .bool true))) rfl ?_
              rintro _ _ rfl
              refine RL.pick_t rfl rfl ?_
              refine RL.move rfl ?_
              refine RL.move rfl ?_
              refine RL.move rfl ?_
              refine RL.move rfl ?_
              refine RL.fn0 rfl rfl rfl en19 (fun w hw => (f_is fs hok hlen A c w (hrd1.st0 hw) (q2 : Int) (cc : Int)).mono (fun v L h => (by rw [isP_true hc3] at h; exact h : v = .bool true))) rfl ?_
              rintro _ _ rfl
              refine RL.pick_t rfl rfl ?_
              refine RL.move rfl ?_
              refine RL.fn0 rfl rfl rfl en10 (fun w hw => (f_awake w)) rfl ?_
              rintro _ _ rfl
              refine RL.pick_t rfl rfl ?_
              refine RL.assign rfl ?_
              refine RL.nil ?_
              refine X.ret ?_
              refine ret1 rfl ?_
              show (_ : Value) = _
              rfl
          · have e0 := hR.anti hq1 hq2 (isP_mem e12) (isP_mem e21)
            rcases e23 : isP fs (q2 : Int) (q3 : Int) with _ | _
            · refine RL.nil ?_
              refine X.cond_f rfl ?_
              refine X.exit rfl ?_
              refine X.seq ?_
              refine X.seq ?_
              refine X.region rfl ?_
              refine RL.move rfl ?_
              refine RL.move rfl ?_
              refine RL.move rfl ?_
              refine RL.fn0 rfl rfl rfl en19 (fun w hw => (f_is fs hok hlen A c w (hrd1.st0 hw) (q1 : Int) (q1 : Int)).mono (fun v L h => (by rw [e11] at h; exact h : v = .bool true))) rfl ?_
              rintro _ _ rfl
              refine RL.not rfl rfl ?_
              refine RL.move rfl ?_
              refine RL.move rfl ?_
              refine RL.move rfl ?_
              refine RL.move rfl ?_
              refine RL.fn0 rfl rfl rfl en19 (fun w hw => (f_is fs hok hlen A c w (hrd1.st0 hw) (q1 : Int) (q2 : Int)).mono (fun v L h => (by rw [e12] at h; exact h : v = .bool true))) rfl ?_
              rintro _ _ rfl
              refine RL.move rfl ?_
              refine RL.move rfl ?_
              refine RL.move rfl ?_
              refine RL.move rfl ?_
              refine RL.fn0 rfl rfl rfl en19 (fun w hw => (f_is fs hok hlen A c w (hrd1.st0 hw) (q2 : Int) (q1 : Int)).mono (fun v L h => (by rw [e21] at h; exact h : v = .bool true))) rfl ?_
              rintro _ _ rfl
              refine RL.pick_t rfl rfl ?_
              refine RL.move rfl ?_
              refine RL.move rfl ?_
              refine RL.move rfl ?_
              refine RL.cmp_f rfl rfl rfl rfl (by show ¬ ((_ : Int) ≠ _); omega) ?_
              refine RL.pick_t rfl rfl ?_
              refine RL.pick_f rfl rfl ?_
              refine RL.move rfl ?_
              refine RL.move rfl ?_
              refine RL.move rfl ?_
              refine RL.move rfl ?_
              refine RL.fn0 rfl rfl rfl en19 (fun w hw => (f_is fs hok hlen A c w (hrd1.st0 hw) (q1 : Int) (q2 : Int)).mono (fun v L h => (by rw [e12] at h; exact h : v = .bool true))) rfl ?_
              rintro _ _ rfl
              refine RL.move rfl ?_
              refine RL.move rfl ?_
              refine RL.move rfl ?_
              refine RL.move rfl ?_
              refine RL.fn0 rfl rfl rfl en19 (fun w hw => (f_is fs hok hlen A c w (hrd1.st0 hw) (q2 : Int) (q3 : Int)).mono (fun v L h => (by rw [e23] at h; exact h : v = .bool false))) rfl ?_
              rintro _ _ rfl
              refine RL.pick_t rfl rfl ?_
              refine RL.move rfl ?_
              refine RL.skip rfl ?_
              refine RL.skip rfl ?_
              refine RL.skip rfl ?_
              refine RL.skip rfl ?_
              refine RL.skip rfl ?_
              refine RL.pick_f rfl rfl ?_
              refine RL.pick_f rfl rfl ?_
              refine RL.nil ?_
              refine X.cond_f rfl ?_
              refine X.skip ?_
              refine X.seq ?_
              refine X.region rfl ?_
              refine RL.move rfl ?_
              refine RL.move rfl ?_
              refine RL.move rfl ?_
              refine RL.fn0 rfl rfl rfl en17 (fun w hw => (f_common fs hok hlen A c w (hrd1.st0 hw) (q1 : Int) (q2 : Int)).mono (fun v L h => (by rw [hc1] at h; exact h : v = .tuple #[.int .i64 cc, .int .i64 0]))) rfl ?_
              rintro _ _ rfl
              refine RL.move rfl ?_
              refine RL.extract rfl rfl rfl ?_
              refine RL.extract rfl rfl rfl ?_
              refine RL.assign rfl ?_
              refine RL.assign rfl ?_
              refine RL.nil ?_
              refine X.seq ?_
              refine X.region rfl ?_
              refine RL.move rfl ?_
              refine RL.move rfl ?_
              refine RL.move rfl ?_
              refine RL.fn0 rfl rfl rfl en17 (fun w hw => (f_common fs hok hlen A c w (hrd1.st0 hw) (q2 : Int) (q1 : Int)).mono (fun v L h => (by rw [← hc4, hc1] at h; exact h : v = .tuple #[.int .i64 cc, .int .i64 0]))) rfl ?_
              rintro _ _ rfl
              refine RL.move rfl ?_
              refine RL.extract rfl rfl rfl ?_
              refine RL.extract rfl rfl rfl ?_
              refine RL.assign rfl ?_
              refine RL.assign rfl ?_
              refine RL.nil ?_
              refine X.seq ?_
              refine X.region rfl ?_
              refine RL.move rfl ?_
              refine RL.cmp_t rfl rfl rfl rfl (by show ((_ : Int) = _); rfl) ?_
              refine RL.move rfl ?_
              refine RL.move rfl ?_
              refine RL.cmp_t rfl rfl rfl rfl (by show ((_ : Int) = _); rfl) ?_
              refine RL.pick_t rfl rfl ?_
              refine RL.move rfl ?_
              refine RL.move rfl ?_
              refine RL.move rfl ?_
              refine RL.cmp_t rfl rfl rfl rfl (by show ((_ : Int) = _); rfl) ?_
              refine RL.pick_t rfl rfl ?_
              refine RL.move rfl ?_
              refine RL.move rfl ?_
              refine RL.move rfl ?_
              refine RL.move rfl ?_
              refine RL.fn0 rfl rfl rfl en19 (fun w hw => (f_is fs hok hlen A c w (hrd1.st0 hw) (q1 : Int) (cc : Int)).mono (fun v L h => (by rw [isP_true hc2] at h; exact h : v = .bool true))) rfl ?_
              rintro _ _ rfl
              refine RL.pick_t rfl rfl ?_
              refine RL.move rfl ?_
              refine RL.move rfl ?_
              refine RL.move rfl ?_
              refine RL.move rfl ?_
              refine RL.fn0 rfl rfl rfl en19 (fun w hw => (f_is fs hok hlen A c w (hrd1.st0 hw) (q2 : Int) (cc : Int)).mono (fun v L h => (by rw [isP_true hc3] at h; exact h : v = .bool true))) rfl ?_
              rintro _ _ rfl
              refine RL.pick_t rfl rfl ?_
              refine RL.move rfl ?_
              refine RL.fn0 rfl rfl rfl en10 (fun w hw => (f_awake w)) rfl ?_
              rintro _ _ rfl
              refine RL.pick_t rfl rfl ?_
              refine RL.assign rfl ?_
              refine RL.nil ?_
              refine X.ret ?_
              refine ret1 rfl ?_
              show (_ : Value) = _
              rfl
            · have e13 : isP fs (q1 : Int) (q3 : Int) = true := isP_true (hR.trans q1 hq1 q2 (isP_mem e12) _ (isP_mem e23))
              refine RL.nil ?_
              refine X.cond_f rfl ?_
              refine X.exit rfl ?_
              refine X.seq ?_
              refine X.seq ?_
              refine X.region rfl ?_
              refine RL.move rfl ?_
              refine RL.move rfl ?_
              refine RL.move rfl ?_
              refine RL.fn0 rfl rfl rfl en19 (fun w hw => (f_is fs hok hlen A c w (hrd1.st0 hw) (q1 : Int) (q1 : Int)).mono (fun v L h => (by rw [e11] at h; exact h : v = .bool true))) rfl ?_
              rintro _ _ rfl
              refine RL.not rfl rfl ?_
              refine RL.move rfl ?_
              refine RL.move rfl ?_
              refine RL.move rfl ?_
              refine RL.move rfl ?_
              refine RL.fn0 rfl rfl rfl en19 (fun w hw => (f_is fs hok hlen A c w (hrd1.st0 hw) (q1 : Int) (q2 : Int)).mono (fun v L h => (by rw [e12] at h; exact h : v = .bool true))) rfl ?_
              rintro _ _ rfl
              refine RL.move rfl ?_
              refine RL.move rfl ?_
              refine RL.move rfl ?_
              refine RL.move rfl ?_
              refine RL.fn0 rfl rfl rfl en19 (fun w hw => (f_is fs hok hlen A c w (hrd1.st0 hw) (q2 : Int) (q1 : Int)).mono (fun v L h => (by rw [e21] at h; exact h : v = .bool true))) rfl ?_
              rintro _ _ rfl
              refine RL.pick_t rfl rfl ?_
              refine RL.move rfl ?_
              refine RL.move rfl ?_
              refine RL.move rfl ?_
              refine RL.cmp_f rfl rfl rfl rfl (by show ¬ ((_ : Int) ≠ _); omega) ?_
              refine RL.pick_t rfl rfl ?_
              refine RL.pick_f rfl rfl ?_
              refine RL.move rfl ?_
              refine RL.move rfl ?_
              refine RL.move rfl ?_
              refine RL.move rfl ?_
              refine RL.fn0 rfl rfl rfl en19 (fun w hw => (f_is fs hok hlen A c w (hrd1.st0 hw) (q1 : Int) (q2 : Int)).mono (fun v L h => (by rw [e12] at h; exact h : v = .bool true))) rfl ?_
              rintro _ _ rfl
              refine RL.move rfl ?_
              refine RL.move rfl ?_
              refine RL.move rfl ?_
              refine RL.move rfl ?_
              refine RL.fn0 rfl rfl rfl en19 (fun w hw => (f_is fs hok hlen A c w (hrd1.st0 hw) (q2 : Int) (q3 : Int)).mono (fun v L h => (by rw [e23] at h; exact h : v = .bool true))) rfl ?_
              rintro _ _ rfl
              refine RL.pick_t rfl rfl ?_
              refine RL.move rfl ?_
              refine RL.move rfl ?_
              refine RL.move rfl ?_
              refine RL.move rfl ?_
              refine RL.fn0 rfl rfl rfl en19 (fun w hw => (f_is fs hok hlen A c w (hrd1.st0 hw) (q1 : Int) (q3 : Int)).mono (fun v L h => (by rw [e13] at h; exact h : v = .bool true))) rfl ?_
              rintro _ _ rfl
              refine RL.not rfl rfl ?_
              refine RL.pick_t rfl rfl ?_
              refine RL.pick_f rfl rfl ?_
              refine RL.nil ?_
              refine X.cond_f rfl ?_
              refine X.skip ?_
              refine X.seq ?_
              refine X.region rfl ?_
              refine RL.move rfl ?_
              refine RL.move rfl ?_
              refine RL.move rfl ?_
              refine RL.fn0 rfl rfl rfl en17 (fun w hw => (f_common fs hok hlen A c w (hrd1.st0 hw) (q1 : Int) (q2 : Int)).mono (fun v L h => (by rw [hc1] at h; exact h : v = .tuple #[.int .i64 cc, .int .i64 0]))) rfl ?_
              rintro _ _ rfl
              refine RL.move rfl ?_
              refine RL.extract rfl rfl rfl ?_
              refine RL.extract rfl rfl rfl ?_
              refine RL.assign rfl ?_
              refine RL.assign rfl ?_
              refine RL.nil ?_
              refine X.seq ?_
              refine X.region rfl ?_
              refine RL.move rfl ?_
              refine RL.move rfl ?_
              refine RL.move rfl ?_
              refine RL.fn0 rfl rfl rfl en17 (fun w hw => (f_common fs hok hlen A c w (hrd1.st0 hw) (q2 : Int) (q1 : Int)).mono (fun v L h => (by rw [← hc4, hc1] at h; exact h : v = .tuple #[.int .i64 cc, .int .i64 0]))) rfl ?_
              rintro _ _ rfl
              refine RL.move rfl ?_
              refine RL.extract rfl rfl rfl ?_
              refine RL.extract rfl rfl rfl ?_
              refine RL.assign rfl ?_
              refine RL.assign rfl ?_
              refine RL.nil ?_
              refine X.seq ?_
              refine X.region rfl ?_
              refine RL.move rfl ?_
              refine RL.cmp_t rfl rfl rfl rfl (by show ((_ : Int) = _); rfl) ?_
              refine RL.move rfl ?_
              refine RL.move rfl ?_
              refine RL.cmp_t rfl rfl rfl rfl (by show ((_ : Int) = _); rfl) ?_
              refine RL.pick_t rfl rfl ?_
              refine RL.move rfl ?_
              refine RL.move rfl ?_
              refine RL.move rfl ?_
              refine RL.cmp_t rfl rfl rfl rfl (by show ((_ : Int) = _); rfl) ?_
              refine RL.pick_t rfl rfl ?_
              refine RL.move rfl ?_
              refine RL.move rfl ?_
              refine RL.move rfl ?_
              refine RL.move rfl ?_
              refine RL.fn0 rfl rfl rfl en19 (fun w hw => (f_is fs hok hlen A c w (hrd1.st0 hw) (q1 : Int) (cc : Int)).mono (fun v L h => (by rw [isP_true hc2] at h; exact h : v = .bool true))) rfl ?_
              rintro _ _ rfl
              refine RL.pick_t rfl rfl ?_
              refine RL.move rfl ?_
              refine RL.move rfl ?_
              refine RL.move rfl ?_
              refine RL.move rfl ?_
              refine RL.fn0 rfl rfl rfl en19 (fun w hw => (f_is fs hok hlen A c w (hrd1.st0 hw) (q2 : Int) (cc : Int)).mono (fun v L h => (by rw [isP_true hc3] at h; exact h : v = .bool true))) rfl ?_
              rintro _ _ rfl
              refine RL.pick_t rfl rfl ?_
              refine RL.move rfl ?_
              refine RL.fn0 rfl rfl rfl en10 (fun w hw => (f_awake w)) rfl ?_
              rintro _ _ rfl
              refine RL.pick_t rfl rfl ?_
              refine RL.assign rfl ?_
              refine RL.nil ?_
              refine X.ret ?_
              refine ret1 rfl ?_
              show (_ : Value) = _
              rfl
end Go.Proofs.Ytjaibkfmkhfjfaa

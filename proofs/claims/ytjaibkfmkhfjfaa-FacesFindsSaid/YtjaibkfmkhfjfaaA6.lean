/- What is told of the example. -/
import Derived.Test.YtjaibkfmkhfjfaaFacesL
import Derived.Test.YtjaibkfmkhfjfaaA5
set_option linter.unusedVariables false
set_option linter.unusedSimpArgs false
namespace Go.Proofs.Ytjaibkfmkhfjfaa
open Go.RowKit
attribute [local irreducible] X RL W Ctr
theorem f_awake (w : World) : Ctr Try.prog 10 [] w [] fun v _ => v = .bool true := by
  refine Ctr.intro0 (n := 27) Try.func10 rfl Try.ntmps10 (Nat.le_of_ble_eq_true rfl) ?_
  refine X.seq ?_
  refine X.region rfl ?_
  refine RL.assign rfl ?_
  refine RL.nil ?_
  refine X.seq ?_
  refine X.region rfl ?_
  refine RL.fn0 rfl rfl rfl en25 (fun w hw => (f_three w)) rfl ?_
  rintro _ _ ⟨b, rfl, rfl⟩
  refine RL.assign rfl ?_
  refine RL.nil ?_
  refine X.seq ?_
  refine X.region rfl ?_
  refine RL.move rfl ?_
  refine RL.fn0 rfl rfl rfl en17 (fun w hw => (f_common threeF threeF_ok (by decide) (some ⟨b, 0, none⟩) 3 w (threeF_rd hw) 1 2).mono (fun v L h => (by rw [threeF_common] at h; exact h : v = .tuple #[.int .i64 1, .int .i64 0]))) rfl ?_
  rintro _ _ rfl
  refine RL.move rfl ?_
  refine RL.extract rfl rfl rfl ?_
  refine RL.extract rfl rfl rfl ?_
  refine RL.assign rfl ?_
  refine RL.assign rfl ?_
  refine RL.nil ?_
  refine X.seq ?_
  refine X.region rfl ?_
  refine RL.move rfl ?_
  refine RL.fn0 rfl rfl rfl en11 (fun w hw => (f_check threeF threeF_ok (by decide) (some ⟨b, 0, none⟩) 3 w (threeF_rd hw)).mono (fun v L h => (by rw [threeF_check] at h; exact h : v = .int .i64 0))) rfl ?_
  rintro _ _ rfl
  refine RL.cmp_t rfl rfl rfl rfl (by show ((_ : Int) = _); rfl) ?_
  refine RL.move rfl ?_
  refine RL.move rfl ?_
  refine RL.fn0 rfl rfl rfl en16 (fun w hw => (f_lline threeF threeF_ok (by decide) (some ⟨b, 0, none⟩) 3 w (threeF_rd hw) 2 9).mono (fun v L h => (by rw [threeF_take] at h; exact h : SRow v [2, 1, 0] L))) rfl ?_
  rintro _ _ ⟨L1, hs, A2, cp, rfl, hrow⟩
  refine RL.drop rfl (hs.append (List.Sublist.refl _)) ?_
  refine RL.bsC (vs := [(0, .int .i64 2), (1, .int .i64 1), (2, .int .i64 0)]) (cells := ints [2, 1, 0]) rfl rfl sl32 (fun w => let ⟨v, a, b⟩ := zt3; ⟨v, a, b w⟩) rfl rfl rfl (by kernel_rfl) ?_
  intro b3 hb3
  refine RL.fn0 rfl rfl rfl en15 (fun w hw => (f_same [2, 1, 0] [2, 1, 0] A2 (some ⟨b3, 0, none⟩) cp 3 w (by decide) (by decide) (row_rd hrow hw (fun p hp => by simp [hp])) (rd_own hw)).mono (fun v L h => (by rw [h, decide_eq_true rfl] : v = .bool true))) rfl ?_
  rintro _ _ rfl
  refine RL.pick_t rfl rfl ?_
  refine RL.move rfl ?_
  refine RL.move rfl ?_
  refine RL.cmp_t rfl rfl rfl rfl (by show ((_ : Int) = _); rfl) ?_
  refine RL.pick_t rfl rfl ?_
  refine RL.move rfl ?_
  refine RL.move rfl ?_
  refine RL.cmp_t rfl rfl rfl rfl (by show ((_ : Int) = _); rfl) ?_
  refine RL.pick_t rfl rfl ?_
  refine RL.assign rfl ?_
  refine RL.nil ?_
  refine X.ret ?_
  refine ret1 rfl ?_
  show (_ : Value) = _
  rfl
end Go.Proofs.Ytjaibkfmkhfjfaa

/- The law: a registry that is none. -/
import Derived.Test.YtnebpklmbefmfaaS1
set_option linter.unusedVariables false
set_option linter.unusedSimpArgs false
namespace Go.Proofs.Ytnebpklmbefmfaa
open Go.RowKit
attribute [local irreducible] X RL W Ctr
set_option maxHeartbeats 1000000 in
set_option maxRecDepth 10000 in
theorem w_nil (id : List Int) (hid : id.length = 16) (i k : Int) (up : Bool) (w : World) :
    Ctr Try.prog 8 [.agg (gcells id).toArray, .int .i64 i, .int .i64 k, .bool up] w [] fun v _ => v = .bool true := by
 refine Ctr.intro0 (n := 88) Try.func8 rfl Try.ntmps8 (Nat.le_of_ble_eq_true rfl) ?_
 refine X.seq ?_
 refine X.region rfl ?_
 refine RL.boxA rfl rfl rfl ?_
 intro b4 hb4
 dsimp only at hb4
 refine RL.assign rfl ?_
 refine RL.nil ?_
 refine X.seq ?_
 refine X.region rfl ?_
 refine RL.assign rfl ?_
 refine RL.nil ?_
 refine X.seq ?_
 refine X.region rfl ?_
 refine RL.move rfl ?_
 refine RL.fn0 rfl rfl rfl en13 (fun w hw => (f_tick0 w)) rfl ?_
 rintro _ _ rfl
 refine RL.drop rfl (List.sublist_append_right _ _) ?_
 refine RL.nil ?_
 refine X.seq ?_
 refine X.region rfl ?_
 refine RL.move rfl ?_
 refine RL.loadOA rfl ag47 rfl (take_all (gcells_length hid)) (gcells_length hid) ?_
 refine RL.fn0 rfl rfl rfl en18 (fun w hw => (f_rfind0 id w)) rfl ?_
 rintro _ _ rfl
 refine RL.drop rfl (List.sublist_append_right _ _) ?_
 refine RL.move rfl ?_
 refine RL.extract rfl rfl rfl ?_
 refine RL.extract rfl rfl rfl ?_
 refine RL.extract rfl rfl rfl ?_
 refine RL.assign rfl ?_
 refine RL.assign rfl ?_
 refine RL.assign rfl ?_
 refine RL.nil ?_
 refine X.seq ?_
 refine X.region rfl ?_
 refine RL.move rfl ?_
 refine RL.move rfl ?_
 refine RL.move rfl ?_
 refine RL.fn0 rfl rfl rfl en27 (fun w hw => (f_class0 i k w)) rfl ?_
 rintro _ _ rfl
 refine RL.drop rfl (List.sublist_append_right _ _) ?_
 refine RL.move rfl ?_
 refine RL.extract rfl rfl rfl ?_
 refine RL.extract rfl rfl rfl ?_
 refine RL.alloc rfl rfl zt69 ?_
 intro b13 hb13
 dsimp only at hb13
 refine RL.stA rfl rfl ag69.size rfl rfl rfl rfl (by simp [Value.oneCell']) ?_
 refine RL.assign rfl ?_
 refine RL.nil ?_
 refine X.seq ?_
 refine X.region rfl ?_
 refine RL.move rfl ?_
 refine RL.move rfl ?_
 refine RL.fn0 rfl rfl rfl en23 (fun w hw => (f_idle0 i w)) rfl ?_
 rintro _ _ rfl
 refine RL.drop rfl (List.sublist_append_right _ _) ?_
 refine RL.move rfl ?_
 refine RL.extract rfl rfl rfl ?_
 refine RL.extract rfl rfl rfl ?_
 refine RL.assign rfl ?_
 refine RL.assign rfl ?_
 refine RL.nil ?_
 refine X.seq ?_
 refine X.region rfl ?_
 refine RL.move rfl ?_
 refine RL.fn0 rfl rfl rfl en29 (fun w hw => (f_classes0 9 w)) rfl ?_
 rintro _ _ ⟨Ai, ci, Li, Ax, cx, css, Lr, Ls, rfl, -, -, -, -⟩
 refine RL.drop rfl (List.sublist_append_right _ _) ?_
 refine RL.move rfl ?_
 refine RL.extract rfl rfl rfl ?_
 refine RL.extract rfl rfl rfl ?_
 refine RL.assign rfl ?_
 refine RL.assign rfl ?_
 refine RL.nil ?_
 refine X.seq ?_
 refine X.region rfl ?_
 refine RL.move rfl ?_
 refine RL.cmp_t rfl rfl rfl rfl (by show ((_ : Int) = _); rfl) ?_
 refine RL.move rfl ?_
 refine RL.move rfl ?_
 refine RL.cmp_t rfl rfl rfl rfl (by show ((_ : Int) = _); rfl) ?_
 refine RL.pick_t rfl rfl ?_
 refine RL.move rfl ?_
 refine RL.move rfl ?_
 refine RL.move rfl ?_
 refine RL.move rfl ?_
 refine RL.move rfl ?_
 refine RL.fn0 rfl rfl rfl en12 (fun w hw => (f_count0 i k up w)) rfl ?_
 rintro _ _ rfl
 refine RL.drop rfl (List.sublist_append_right _ _) ?_
 refine RL.cmp_t rfl rfl rfl rfl (by show ((_ : Int) = _); rfl) ?_
 refine RL.pick_t rfl rfl ?_
 refine RL.move rfl ?_
 refine RL.move rfl ?_
 refine RL.move rfl ?_
 refine RL.fn0 rfl rfl rfl en15 (fun w hw => (f_loaded0 i w)) rfl ?_
 rintro _ _ rfl
 refine RL.drop rfl (List.sublist_append_right _ _) ?_
 refine RL.not rfl rfl ?_
 refine RL.pick_t rfl rfl ?_
 refine RL.move rfl ?_
 refine RL.move rfl ?_
 refine RL.cmp_t rfl rfl rfl rfl (by show ((_ : Int) = _); rfl) ?_
 refine RL.pick_t rfl rfl ?_
 refine RL.move rfl ?_
 refine RL.move rfl ?_
 refine RL.not rfl rfl ?_
 refine RL.pick_t rfl rfl ?_
 refine RL.move rfl ?_
 refine RL.move rfl ?_
 refine RL.fn0 rfl rfl rfl en14 (fun w hw => (f_free0 w)) rfl ?_
 rintro _ _ rfl
 refine RL.drop rfl (List.sublist_append_right _ _) ?_
 refine RL.len rfl sl38 rfl ?_
 refine RL.cmp_t rfl rfl rfl rfl (by show ((_ : Int) = _); rfl) ?_
 refine RL.pick_t rfl rfl ?_
 refine RL.move rfl ?_
 refine RL.move rfl ?_
 refine RL.len rfl sl38 rfl ?_
 refine RL.cmp_t rfl rfl rfl rfl (by show ((_ : Int) = _); rfl) ?_
 refine RL.pick_t rfl rfl ?_
 refine RL.move rfl ?_
 refine RL.fn0 rfl rfl rfl en16 (fun w hw => (f_awake w)) rfl ?_
 rintro _ _ rfl
 refine RL.drop rfl (List.sublist_append_right _ _) ?_
 refine RL.pick_t rfl rfl ?_
 refine RL.assign rfl ?_
 refine RL.nil ?_
 refine X.ret ?_
 exact ret1 rfl rfl
end Go.Proofs.Ytnebpklmbefmfaa

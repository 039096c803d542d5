/- The law: the form of what is right. -/
import Derived.Test.YtdnnnbjmjjdcfaaE3
import Derived.Test.YtdnnnbjmjjdcfaaC4
set_option linter.unusedVariables false
set_option linter.unusedSimpArgs false
namespace Go.Proofs.Ytdnnnbjmjjdcfaa
open Go.RowKit
attribute [local irreducible] X RL W Ctr
set_option maxHeartbeats 1000000 in
set_option maxRecDepth 10000 in
theorem w_encodes (m : List Cl) (A : Option Addr) (n : Nat) (w : World) (hm : ModR w m A) (hcb : ∀ c ∈ m, ClB c) :
    Ctr Try.prog 4 [.agg #[.slice A m.length n]] w [] fun v _ => v = .bool true := by
 have hm1 := hm
 obtain ⟨bb, oo, hA, hc⟩ := hm.open
 refine Ctr.intro0 (n := 44) Try.func4 rfl Try.ntmps4 (Nat.le_of_ble_eq_true rfl) ?_
 refine X.seq ?_
 refine X.region rfl ?_
 refine RL.boxA rfl rfl rfl ?_
 intro b1 hb1
 dsimp only at hb1
 refine RL.assign rfl ?_
 refine RL.nil ?_
 refine X.seq ?_
 refine X.seq ?_
 refine X.region rfl ?_
 refine RL.loadOA rfl ag24 rfl (show List.take 1 (List.drop 0 [.slice A m.length n]) = [.slice A m.length n] from rfl) rfl ?_
 refine RL.fn (Lp := []) (Lr := [(b1, cel 24 [.slice A m.length n])]) rfl rfl rfl en8 (List.Perm.refl _) (fun w1 hw1 => f_great m A n w1 (hm1.st0 hw1)) rfl ?_
 rintro _ Lz ⟨q, rfl, hq⟩
 refine RL.drop (L' := [(b1, cel 24 [.slice A m.length n])]) rfl (List.sublist_append_right _ _) ?_
 cases q
 rotate_left
 ·refine RL.nil ?_
  refine X.cond_t rfl ?_
  refine X.seq ?_
  refine X.region rfl ?_
  refine RL.fn0 rfl rfl rfl en9 (fun w hw => (f_awake w)) rfl ?_
  rintro _ _ rfl
  refine RL.assign rfl ?_
  refine RL.nil ?_
  refine X.ret ?_
  exact ret1 rfl rfl
 ·obtain ⟨hl12, hsz⟩ := hq rfl
  have hlen : m.length ≤ 1000 := by omega
  refine RL.nil ?_
  refine X.cond_f rfl ?_
  refine X.skip ?_
  refine X.seq ?_
  refine X.region rfl ?_
  refine RL.loadOA rfl ag24 rfl (show List.take 1 (List.drop 0 [.slice A m.length n]) = [.slice A m.length n] from rfl) rfl ?_
  refine RL.fn (Lp := []) (Lr := [(b1, cel 24 [.slice A m.length n])]) rfl rfl rfl en14 (List.Perm.refl _) (fun w1 hw1 => f_encode m hsz hlen A n w1 (hm1.st0 hw1)) rfl ?_
  rintro _ Lz hz
  by_cases hv : (mcheckP m).2 = 0
  rotate_left
  ·rw [if_neg hv] at hz
   subst hz
   refine RL.drop (L' := [(b1, cel 24 [.slice A m.length n])]) rfl (List.sublist_append_right _ _) ?_
   refine RL.move rfl ?_
   refine RL.extract rfl rfl rfl ?_
   refine RL.extract rfl rfl rfl ?_
   refine RL.assign rfl ?_
   refine RL.assign rfl ?_
   refine RL.nil ?_
   refine X.seq ?_
   refine X.region rfl ?_
   refine RL.loadOA rfl ag24 rfl (show List.take 1 (List.drop 0 [.slice A m.length n]) = [.slice A m.length n] from rfl) rfl ?_
   refine RL.fn0 rfl rfl rfl en11 (fun w hw => (f_rmcheck m hsz hlen A n w (hm1.st0 hw))) rfl ?_
   rintro _ _ rfl
   refine RL.move rfl ?_
   refine RL.extract rfl rfl rfl ?_
   refine RL.extract rfl rfl rfl ?_
   refine RL.assign rfl ?_
   refine RL.assign rfl ?_
   refine RL.nil ?_
   refine X.seq ?_
   refine X.seq ?_
   refine X.region rfl ?_
   refine RL.move rfl ?_
   refine RL.cmp_t rfl rfl rfl rfl (by show ((_ : Int) ≠ _); exact hv) ?_
   refine RL.nil ?_
   refine X.cond_t rfl ?_
   refine X.seq ?_
   refine X.region rfl ?_
   refine RL.move rfl ?_
   refine RL.move rfl ?_
   refine RL.cmp_t rfl rfl rfl rfl (by show ((_ : Int) = _); rfl) ?_
   refine RL.move rfl ?_
   refine RL.move rfl ?_
   refine RL.len rfl sl40 rfl ?_
   refine RL.cmp_t rfl rfl rfl rfl (by show ((_ : Int) = _); rfl) ?_
   refine RL.pick_t rfl rfl ?_
   refine RL.move rfl ?_
   refine RL.fn0 rfl rfl rfl en9 (fun w hw => (f_awake w)) rfl ?_
   rintro _ _ rfl
   refine RL.pick_t rfl rfl ?_
   refine RL.assign rfl ?_
   refine RL.nil ?_
   refine X.ret ?_
   exact ret1 rfl rfl
  ·rw [if_pos hv] at hz
   obtain ⟨A2, n2, cp2, Lr2, rfl, hr2, hs2, hn2⟩ := hz
   obtain ⟨hl2, hcp2⟩ := row_len hr2
   rw [gcells_len] at hl2
   subst hl2
   refine RL.drop (L' := Lr2 ++ ([(b1, cel 24 [.slice A m.length n])])) rfl (List.Sublist.append hs2 (List.Sublist.refl _)) ?_
   refine RL.move rfl ?_
   refine RL.extract rfl rfl rfl ?_
   refine RL.extract rfl rfl rfl ?_
   refine RL.assign rfl ?_
   refine RL.assign rfl ?_
   refine RL.nil ?_
   refine X.seq ?_
   refine X.region rfl ?_
   refine RL.loadOA rfl ag24 rfl (show List.take 1 (List.drop 0 [.slice A m.length n]) = [.slice A m.length n] from rfl) rfl ?_
   refine RL.fnQ (v := .tuple #[.int .i64 (mcheckP m).1, .int .i64 (mcheckP m).2]) rfl rfl en11 (fun w1 hw1 => f_rmcheck m hsz hlen A n w1 (hm1.st0 hw1)) rfl ?_
   refine RL.move rfl ?_
   refine RL.extract rfl rfl rfl ?_
   refine RL.extract rfl rfl rfl ?_
   refine RL.assign rfl ?_
   refine RL.assign rfl ?_
   refine RL.nil ?_
   refine X.seq ?_
   refine X.seq ?_
   refine X.region rfl ?_
   refine RL.move rfl ?_
   refine RL.cmp_f rfl rfl rfl rfl (by show ¬ ((_ : Int) ≠ _); exact fun h => h hv) ?_
   refine RL.nil ?_
   refine X.cond_f rfl ?_
   refine X.skip ?_
   refine X.seq ?_
   refine X.region rfl ?_
   refine RL.move rfl ?_
   refine RL.cmp_t rfl rfl rfl rfl (by show ((_ : Int) = _); rfl) ?_
   refine RL.move rfl ?_
   refine RL.move rfl ?_
   refine RL.loadOA rfl ag24 rfl (show List.take 1 (List.drop 0 [.slice A m.length n]) = [.slice A m.length n] from rfl) rfl ?_
   refine RL.fn (Lp := []) (Lr := Lr2 ++ ([(b1, cel 24 [.slice A m.length n])])) rfl rfl rfl en16 (List.Perm.refl _) (fun w1 hw1 => f_rencode m hsz hlen A n w1 (hm1.st0 hw1) hv) rfl ?_
   rintro _ Lz ⟨A3, n3, cp3, Lr3, rfl, hr3, hs3, hn3⟩
   obtain ⟨hl3, hcp3⟩ := row_len hr3
   rw [gcells_len] at hl3
   subst hl3
   refine RL.drop (L' := Lr3 ++ (Lr2 ++ ([(b1, cel 24 [.slice A m.length n])]))) rfl (List.Sublist.append hs3 (List.Sublist.refl _)) ?_
   refine RL.fnQ (v := .bool true) rfl rfl en15 (fun w1 hw1 => f_samebytes (encP m) (by omega) A2 A3 cp2 cp3 w1 (row_rd hr2 hw1 (fun p hp => by simp [hp])) (row_rd hr3 hw1 (fun p hp => by simp [hp]))) rfl ?_
   refine RL.pick_t rfl rfl ?_
   refine RL.move rfl ?_
   refine RL.fn0 rfl rfl rfl en9 (fun w hw => (f_awake w)) rfl ?_
   rintro _ _ rfl
   refine RL.pick_t rfl rfl ?_
   refine RL.assign rfl ?_
   refine RL.nil ?_
   refine X.ret ?_
   exact ret1 rfl rfl
end Go.Proofs.Ytdnnnbjmjjdcfaa

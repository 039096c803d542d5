/- Bytes are read as a module. -/
import Derived.Test.YtnebpklmbefmfaaD3
import Derived.Test.YtnebpklmbefmfaaC3
import Derived.Test.YtnebpklmbefmfaaDecode
set_option linter.unusedVariables false
set_option linter.unusedSimpArgs false
namespace Go.Proofs.Ytnebpklmbefmfaa
open Go.RowKit
attribute [local irreducible] X RL W Ctr
theorem f_bequal (xs ys : List Int) (hx : Byt xs) (hy : Byt ys) (A B : Option Addr) (c d : Nat) (w : World) (h1 : Rd w A (gcells xs)) (h2 : Rd w B (gcells ys)) :
    Ctr Try.prog 41 [.slice A xs.length c, .slice B ys.length d] w [] fun v _ => v = .bool (decide (xs = ys)) := by
 refine Ctr.intro0 (n := 10) Try.func41 rfl Try.ntmps41 (Nat.le_of_ble_eq_true rfl) ?_
 refine X.seq ?_
 refine X.region rfl ?_
 refine RL.assign rfl ?_
 refine RL.nil ?_
 refine X.seq ?_
 refine X.region rfl ?_
 refine RL.move rfl ?_
 refine RL.convS rfl Try.underlying84 Try.underlying5 Try.underlying9 rfl (fun w1 hw1 => h1.stN hw1 (fun b o he => by simp)) ?_
 refine RL.move rfl ?_
 refine RL.convS rfl Try.underlying84 Try.underlying5 Try.underlying9 rfl (fun w1 hw1 => h2.stN hw1 (fun b o he => by simp)) ?_
 refine RL.eqS rfl rfl rfl ?_
 refine RL.assign rfl ?_
 refine RL.nil ?_
 refine X.ret ?_
 refine ret1 rfl ?_
 show Value.bool (decide (strOfNums xs = strOfNums ys)) = _
 rw [decide_eq_decide.2 (str_inj hx hy)]
theorem f_decode (r : List Int) (A : Option Addr) (cp : Nat) (w : World) (hrd : Rd w A (gcells r)) (hcap : r.length ≤ cp) (hlen : r.length ≤ 1000000) (hbyt : Byt r) :
    Ctr Try.prog 31 [.slice A r.length cp] w [] fun v L => (∃ m Am cm Lm, decP r = some m ∧ v = .tuple #[.agg #[.slice Am m.length cm], .int .i64 0] ∧ ModO m Am cm Lm ∧ Lm.Sublist L) ∨ (decP r = none ∧ v = .tuple #[.agg #[.slice none 0 0], .int .i64 5]) := by
 refine Ctr.intro0 (n := 32) Try.func31 rfl Try.ntmps31 (Nat.le_of_ble_eq_true rfl) ?_
 refine X.seq ?_
 refine X.region rfl ?_
 refine RL.alloc rfl rfl zt30 ?_
 intro b2 hb2
 dsimp only at hb2
 refine RL.assign rfl ?_
 refine RL.nil ?_
 refine X.seq ?_
 refine X.region rfl ?_
 refine RL.move rfl ?_
 refine RL.fn (Lp := []) (Lr := [(b2, cel 30 [.slice none 0 0])]) rfl rfl rfl en40 (List.Perm.refl _) (fun w1 hw1 => f_read r A cp w1 (hrd.stN hw1 (fun b o he => by simp)) hcap hlen hbyt) rfl ?_
 rintro _ Lq (⟨m, Am, cm, Lm, hpm, rfl, hmo, hsub⟩ | ⟨hpm, rfl⟩)
 rotate_left
 ·have hN : decP r = none := by unfold decP; rw [hpm]; rfl
  refine RL.drop (L' := [(b2, cel 30 [.slice none 0 0])]) rfl (List.sublist_append_right _ _) ?_
  refine RL.move rfl ?_
  refine RL.extract rfl rfl rfl ?_
  refine RL.extract rfl rfl rfl ?_
  refine RL.alloc rfl rfl zt30 ?_
  intro b4 hb4
  dsimp only at hb4
  refine RL.stA rfl rfl ag30.size rfl rfl rfl rfl (by simp [Value.oneCell']) ?_
  refine RL.assign rfl ?_
  refine RL.nil ?_
  refine X.seq ?_
  refine X.seq ?_
  refine X.region rfl ?_
  refine RL.loadOA rfl ag30 rfl (show List.take 1 (List.drop 0 [.slice none 0 0]) = [.slice none 0 0] from rfl) rfl ?_
  refine RL.fn (Lp := []) (Lr := [(b4, cel 30 [.slice none 0 0]), (b2, cel 30 [.slice none 0 0])]) rfl rfl rfl en30 (List.Perm.refl _) (fun w1 hw1 => f_encode [] (by simp) (by simp) none 0 w1 ⟨[], rfl, Rd.nil _ _, by simp⟩) rfl ?_
  rintro _ Lz hz
  rw [if_neg (by decide)] at hz
  subst hz
  refine RL.drop (L' := [(b4, cel 30 [.slice none 0 0]), (b2, cel 30 [.slice none 0 0])]) rfl (List.sublist_append_right _ _) ?_
  refine RL.move rfl ?_
  refine RL.extract rfl rfl rfl ?_
  refine RL.extract rfl rfl rfl ?_
  refine RL.assign rfl ?_
  refine RL.assign rfl ?_
  refine RL.nil ?_
  refine X.seq ?_
  refine X.region rfl ?_
  refine RL.move rfl ?_
  refine RL.not rfl rfl ?_
  refine RL.move rfl ?_
  refine RL.skip rfl ?_
  refine RL.skip rfl ?_
  refine RL.pick_t rfl rfl ?_
  refine RL.move rfl ?_
  refine RL.skip rfl ?_
  refine RL.skip rfl ?_
  refine RL.skip rfl ?_
  refine RL.skip rfl ?_
  refine RL.pick_t rfl rfl ?_
  refine RL.nil ?_
  refine X.cond_t rfl ?_
  refine X.seq ?_
  refine X.region rfl ?_
  refine RL.bldC (vs := []) (cells := [.slice none 0 0]) rfl rfl (fun w => by kernel_rfl) ?_
  refine RL.stA rfl rfl ag30.size rfl rfl rfl rfl (by simp [Value.oneCell']) ?_
  refine RL.assign rfl ?_
  refine RL.nil ?_
  refine X.ret ?_
  exact retcA2 rfl ag30 rfl rfl (.inr ⟨hN, rfl⟩)
 obtain ⟨hml, hsz⟩ := pMod_sz hbyt hpm
 have hid := pMod_id hbyt hpm
 refine RL.drop (L' := Lm ++ [(b2, cel 30 [.slice none 0 0])]) rfl (List.Sublist.append hsub (List.Sublist.refl _)) ?_
 refine RL.move rfl ?_
 refine RL.extract rfl rfl rfl ?_
 refine RL.extract rfl rfl rfl ?_
 refine RL.alloc rfl rfl zt30 ?_
 intro b4 hb4
 dsimp only at hb4
 refine RL.stA rfl rfl ag30.size rfl rfl rfl rfl (by simp [Value.oneCell']) ?_
 refine RL.assign rfl ?_
 refine RL.nil ?_
 refine X.seq ?_
 refine X.seq ?_
 refine X.region rfl ?_
 refine RL.loadOA rfl ag30 rfl (show List.take 1 (List.drop 0 [.slice Am m.length cm]) = [.slice Am m.length cm] from rfl) rfl ?_
 refine RL.fn (Lp := []) (Lr := (b4, cel 30 [.slice Am m.length cm]) :: (Lm ++ [(b2, cel 30 [.slice none 0 0])])) rfl rfl rfl en30 (List.Perm.refl _) (fun w1 hw1 => f_encode m hsz hml Am cm w1 (hmo.reads hw1 (fun p hp => by simp [hp]))) rfl ?_
 rintro _ Lz hz
 by_cases hv : (mcheckP m).2 = 0
 rotate_left
 ·have hN : decP r = none := by unfold decP; rw [hpm]; exact if_neg (fun h => hv h.1)
  rw [if_neg hv] at hz
  subst hz
  refine RL.drop (L' := (b4, cel 30 [.slice Am m.length cm]) :: (Lm ++ [(b2, cel 30 [.slice none 0 0])])) rfl (List.sublist_append_right _ _) ?_
  refine RL.move rfl ?_
  refine RL.extract rfl rfl rfl ?_
  refine RL.extract rfl rfl rfl ?_
  refine RL.assign rfl ?_
  refine RL.assign rfl ?_
  refine RL.nil ?_
  refine X.seq ?_
  refine X.region rfl ?_
  refine RL.move rfl ?_
  refine RL.not rfl rfl ?_
  refine RL.move rfl ?_
  refine RL.move rfl ?_
  refine RL.cmp_t rfl rfl rfl rfl (by show ((_ : Int) ≠ _); exact hv) ?_
  refine RL.pick_f rfl rfl ?_
  refine RL.move rfl ?_
  refine RL.skip rfl ?_
  refine RL.skip rfl ?_
  refine RL.skip rfl ?_
  refine RL.skip rfl ?_
  refine RL.pick_t rfl rfl ?_
  refine RL.nil ?_
  refine X.cond_t rfl ?_
  refine X.seq ?_
  refine X.region rfl ?_
  refine RL.bldC (vs := []) (cells := [.slice none 0 0]) rfl rfl (fun w => by kernel_rfl) ?_
  refine RL.stA rfl rfl ag30.size rfl rfl rfl rfl (by simp [Value.oneCell']) ?_
  refine RL.assign rfl ?_
  refine RL.nil ?_
  refine X.ret ?_
  exact retcA2 rfl ag30 rfl rfl (.inr ⟨hN, rfl⟩)
 rw [if_pos hv] at hz
 obtain ⟨A2, n2, cp2, Lr2, rfl, hr2, hs2, hn2⟩ := hz
 obtain rfl : n2 = (encP m).length := by have := (row_len hr2).1; rwa [gcells_len] at this
 refine RL.drop (L' := Lr2 ++ ((b4, cel 30 [.slice Am m.length cm]) :: (Lm ++ [(b2, cel 30 [.slice none 0 0])]))) rfl (List.Sublist.append hs2 (List.Sublist.refl _)) ?_
 refine RL.move rfl ?_
 refine RL.extract rfl rfl rfl ?_
 refine RL.extract rfl rfl rfl ?_
 refine RL.assign rfl ?_
 refine RL.assign rfl ?_
 refine RL.nil ?_
 refine X.seq ?_
 refine X.region rfl ?_
 refine RL.move rfl ?_
 refine RL.not rfl rfl ?_
 refine RL.move rfl ?_
 refine RL.move rfl ?_
 refine RL.cmp_f rfl rfl rfl rfl (by show ¬ ((_ : Int) ≠ _); decide) ?_
 refine RL.pick_f rfl rfl ?_
 refine RL.move rfl ?_
 refine RL.move rfl ?_
 refine RL.move rfl ?_
 refine RL.fnQ (v := .bool (decide (encP m = r))) rfl rfl en41 (fun w1 hw1 => f_bequal (encP m) r (encP_byt hid) hbyt A2 A cp2 cp w1 (row_rd hr2 hw1 (fun p hp => List.mem_append_left _ hp)) (hrd.stN hw1 (fun b o he => by simp))) rfl ?_
 by_cases he : encP m = r
 ·rw [decide_eq_true he]
  refine RL.not rfl rfl ?_
  refine RL.pick_f rfl rfl ?_
  refine RL.nil ?_
  refine X.cond_f rfl ?_
  refine X.skip ?_
  refine X.seq ?_
  refine X.region rfl ?_
  refine RL.loadOA rfl ag30 rfl (show List.take 1 (List.drop 0 [.slice Am m.length cm]) = [.slice Am m.length cm] from rfl) rfl ?_
  refine RL.stA rfl rfl ag30.size rfl rfl rfl rfl (by simp [Value.oneCell']) ?_
  refine RL.assign rfl ?_
  refine RL.nil ?_
  refine X.ret ?_
  exact retcA2 rfl ag30 rfl rfl (.inl ⟨m, Am, cm, Lm, by unfold decP; rw [hpm]; exact if_pos ⟨hv, he⟩, rfl, hmo, List.Sublist.trans (List.sublist_append_left Lm _) (.trans (.cons _ (.refl _)) (List.sublist_append_right Lr2 _))⟩)
 rw [decide_eq_false he]
 have hN : decP r = none := by unfold decP; rw [hpm]; exact if_neg (fun h => he h.2)
 refine RL.not rfl rfl ?_
 refine RL.pick_f rfl rfl ?_
 refine RL.nil ?_
 refine X.cond_t rfl ?_
 refine X.seq ?_
 refine X.region rfl ?_
 refine RL.bldC (vs := []) (cells := [.slice none 0 0]) rfl rfl (fun w => by kernel_rfl) ?_
 refine RL.stA rfl rfl ag30.size rfl rfl rfl rfl (by simp [Value.oneCell']) ?_
 refine RL.assign rfl ?_
 refine RL.nil ?_
 refine X.ret ?_
 exact retcA2 rfl ag30 rfl rfl (.inr ⟨hN, rfl⟩)
end Go.Proofs.Ytnebpklmbefmfaa

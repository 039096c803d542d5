/- The law: what is read. -/
import Derived.Test.YtdnnnbjmjjdcfaaG2
import Derived.Test.YtdnnnbjmjjdcfaaG3
set_option linter.unusedVariables false
set_option linter.unusedSimpArgs false
namespace Go.Proofs.Ytdnnnbjmjjdcfaa
open Go.RowKit
attribute [local irreducible] X RL W Ctr
set_option maxHeartbeats 1000000 in
set_option maxRecDepth 10000 in
theorem w_decodes (r : List Int) (A : Option Addr) (cp : Nat) (w : World) (hcap : r.length ≤ cp) (hbyt : Byt r) (hrd : Rd w A (gcells r)) :
    Ctr Try.prog 5 [.slice A r.length cp] w [] fun v _ => v = .bool true := by
 refine Ctr.intro0 (n := 49) Try.func5 rfl Try.ntmps5 (Nat.le_of_ble_eq_true rfl) ?_
 refine X.seq ?_
 refine X.region rfl ?_
 refine RL.assign rfl ?_
 refine RL.nil ?_
 refine X.seq ?_
 refine X.seq ?_
 refine X.region rfl ?_
 refine RL.move rfl ?_
 refine RL.len rfl sl40 rfl ?_
 refine RL.cmp_s rfl rfl rfl rfl (fun h20 => ?_) (fun h20 => ?_)
 ·replace h20 : (_ : Int) > _ := h20
  refine RL.nil ?_
  refine X.cond_t rfl ?_
  refine X.seq ?_
  refine X.region rfl ?_
  refine RL.fn0 rfl rfl rfl en9 (fun w hw => (f_awake w)) rfl ?_
  rintro _ _ rfl
  refine RL.assign rfl ?_
  refine RL.nil ?_
  refine X.ret ?_
  exact ret1 rfl rfl
 ·replace h20 : ¬ ((_ : Int) > _) := h20
  have h20k : r.length ≤ 20000 := by omega
  refine RL.nil ?_
  refine X.cond_f rfl ?_
  refine X.skip ?_
  refine X.seq ?_
  refine X.region rfl ?_
  refine RL.move rfl ?_
  refine RL.fn (Lp := []) (Lr := []) rfl rfl rfl en17 (List.Perm.refl _) (fun w1 hw1 => f_lent r h20k A cp w1 (hrd.stN hw1 (fun b o he => by simp))) rfl ?_
  rintro _ Lz ⟨b, cap, junk, rfl, hcap2, hs⟩
  refine RL.drop (L' := [(b, cel 5 (gcells (lentB r) ++ junk))]) rfl (by rw [List.append_nil]; exact hs) ?_
  refine RL.assign rfl ?_
  refine RL.nil ?_
  refine X.seq ?_
  refine X.region rfl ?_
  refine RL.move rfl ?_
  refine RL.fn (Lp := []) (Lr := [(b, cel 5 (gcells (lentB r) ++ junk))]) rfl rfl rfl en18 (List.Perm.refl _) (fun w1 hw1 => f_decode r (some ⟨b, 0, none⟩) cap w1 ⟨b, 0, fun _ => rfl, fun j v hv => by rw [Nat.zero_add]; exact cell_of (hw1.own (b, cel 5 (gcells (lentB r) ++ junk)) (.head _)) (lent_pre hv)⟩ (by omega) (by omega) hbyt) rfl ?_
  rintro _ Lz (⟨m, Am, cm, Lm, hd, rfl, hmo, hsub⟩ | ⟨hd, rfl⟩)
  ·refine RL.drop (L' := Lm ++ [(b, cel 5 (gcells (lentB r) ++ junk))]) rfl (List.Sublist.append hsub (List.Sublist.refl _)) ?_
   obtain ⟨hml, hsz⟩ := pMod_sz hbyt (decP_enc hd).1
   refine RL.move rfl ?_
   refine RL.extract rfl rfl rfl ?_
   refine RL.extract rfl rfl rfl ?_
   refine RL.alloc rfl rfl zt24 ?_
   intro b4 hb4
   dsimp only at hb4
   refine RL.stA rfl rfl ag24.size rfl rfl rfl rfl (by simp [Value.oneCell']) ?_
   refine RL.assign rfl ?_
   refine RL.nil ?_
   refine X.seq ?_
   refine X.region rfl ?_
   refine RL.move rfl ?_
   refine RL.fn (Lp := []) (Lr := (b4, cel 24 [.slice Am m.length cm]) :: (Lm ++ [(b, cel 5 (gcells (lentB r) ++ junk))])) rfl rfl rfl en19 (List.Perm.refl _) (fun w1 hw1 => f_rdecode r (by omega) hbyt A cp w1 (hrd.stN hw1 (fun b o he => by simp)) h20k) rfl ?_
   rintro _ Lz (⟨m2, Am2, cm2, Lm2, hd2, rfl, hmo2, hsub2⟩ | ⟨hd2, rfl⟩)
   rotate_left
   · rw [hd] at hd2; cases hd2
   obtain rfl : m = m2 := by rw [hd] at hd2; exact Option.some.inj hd2
   refine RL.drop (L' := Lm2 ++ ((b4, cel 24 [.slice Am m.length cm]) :: (Lm ++ [(b, cel 5 (gcells (lentB r) ++ junk))]))) rfl (List.Sublist.append hsub2 (List.Sublist.refl _)) ?_
   refine RL.move rfl ?_
   refine RL.extract rfl rfl rfl ?_
   refine RL.extract rfl rfl rfl ?_
   refine RL.alloc rfl rfl zt24 ?_
   intro b6 hb6
   dsimp only at hb6
   refine RL.stA rfl rfl ag24.size rfl rfl rfl rfl (by simp [Value.oneCell']) ?_
   refine RL.assign rfl ?_
   refine RL.nil ?_
   refine X.seq ?_
   refine X.region rfl ?_
   refine RL.loadOA rfl ag24 rfl (show List.take 1 (List.drop 0 [.slice Am m.length cm]) = [.slice Am m.length cm] from rfl) rfl ?_
   refine RL.loadOA rfl ag24 rfl (show List.take 1 (List.drop 0 [.slice Am2 m.length cm2]) = [.slice Am2 m.length cm2] from rfl) rfl ?_
   refine RL.fnQ (v := .bool true) rfl rfl en20 (fun w1 hw1 => f_same m hsz hml Am Am2 cm cm2 w1 (hmo.reads hw1 (fun p hp => by simp [hp])) (hmo2.reads hw1 (fun p hp => by simp [hp]))) rfl ?_
   refine RL.move rfl ?_
   refine RL.move rfl ?_
   refine RL.cmp_t rfl rfl rfl rfl (by show ((_ : Int) = _); rfl) ?_
   refine RL.move rfl ?_
   refine RL.eqB rfl Try.underlying4 rfl rfl ?_
   refine RL.pick_t rfl rfl ?_
   refine RL.move rfl ?_
   refine RL.move rfl ?_
   refine RL.cmp_t rfl rfl rfl rfl (by show ((_ : Int) = _); rfl) ?_
   refine RL.move rfl ?_
   refine RL.skip rfl ?_
   refine RL.skip rfl ?_
   refine RL.pick_t rfl rfl ?_
   refine RL.pick_t rfl rfl ?_
   refine RL.move rfl ?_
   refine RL.move rfl ?_
   refine RL.move rfl ?_
   refine RL.fnQ (v := .bool true) rfl rfl en21 (fun w1 hw1 => f_kept r h20k A cp b cap junk w1 (hrd.stN hw1 (fun b o he => by simp)) hcap2 (hw1.own (b, cel 5 (gcells (lentB r) ++ junk)) (by simp))) rfl ?_
   refine RL.pick_t rfl rfl ?_
   refine RL.move rfl ?_
   refine RL.fn0 rfl rfl rfl en9 (fun w hw => (f_awake w)) rfl ?_
   rintro _ _ rfl
   refine RL.pick_t rfl rfl ?_
   refine RL.assign rfl ?_
   refine RL.nil ?_
   refine X.ret ?_
   exact ret1 rfl rfl
  ·refine RL.drop (L' := [] ++ [(b, cel 5 (gcells (lentB r) ++ junk))]) rfl (List.sublist_append_right _ _) ?_
   refine RL.move rfl ?_
   refine RL.extract rfl rfl rfl ?_
   refine RL.extract rfl rfl rfl ?_
   refine RL.alloc rfl rfl zt24 ?_
   intro b4 hb4
   dsimp only at hb4
   refine RL.stA rfl rfl ag24.size rfl rfl rfl rfl (by simp [Value.oneCell']) ?_
   refine RL.assign rfl ?_
   refine RL.nil ?_
   refine X.seq ?_
   refine X.region rfl ?_
   refine RL.move rfl ?_
   refine RL.fn (Lp := []) (Lr := (b4, cel 24 [.slice none 0 0]) :: ([] ++ [(b, cel 5 (gcells (lentB r) ++ junk))])) rfl rfl rfl en19 (List.Perm.refl _) (fun w1 hw1 => f_rdecode r (by omega) hbyt A cp w1 (hrd.stN hw1 (fun b o he => by simp)) h20k) rfl ?_
   rintro _ Lz (⟨m2, Am2, cm2, Lm2, hd2, rfl, hmo2, hsub2⟩ | ⟨hd2, rfl⟩)
   · rw [hd] at hd2; cases hd2
   refine RL.drop (L' := [] ++ ((b4, cel 24 [.slice none 0 0]) :: ([] ++ [(b, cel 5 (gcells (lentB r) ++ junk))]))) rfl (List.sublist_append_right _ _) ?_
   refine RL.move rfl ?_
   refine RL.extract rfl rfl rfl ?_
   refine RL.extract rfl rfl rfl ?_
   refine RL.alloc rfl rfl zt24 ?_
   intro b6 hb6
   dsimp only at hb6
   refine RL.stA rfl rfl ag24.size rfl rfl rfl rfl (by simp [Value.oneCell']) ?_
   refine RL.assign rfl ?_
   refine RL.nil ?_
   refine X.seq ?_
   refine X.region rfl ?_
   refine RL.loadOA rfl ag24 rfl (show List.take 1 (List.drop 0 [.slice none 0 0]) = [.slice none 0 0] from rfl) rfl ?_
   refine RL.loadOA rfl ag24 rfl (show List.take 1 (List.drop 0 [.slice none 0 0]) = [.slice none 0 0] from rfl) rfl ?_
   refine RL.fnQ (v := .bool true) rfl rfl en20 (fun w1 hw1 => f_same [] (by simp) (by simp) none none 0 0 w1 ⟨[], rfl, Rd.nil _ _, by simp⟩ ⟨[], rfl, Rd.nil _ _, by simp⟩) rfl ?_
   refine RL.move rfl ?_
   refine RL.move rfl ?_
   refine RL.cmp_f rfl rfl rfl rfl (by show ¬ ((_ : Int) = _); decide) ?_
   refine RL.move rfl ?_
   refine RL.eqB rfl Try.underlying4 rfl rfl ?_
   refine RL.pick_t rfl rfl ?_
   refine RL.move rfl ?_
   refine RL.move rfl ?_
   refine RL.cmp_f rfl rfl rfl rfl (by show ¬ ((_ : Int) = _); decide) ?_
   refine RL.move rfl ?_
   refine RL.move rfl ?_
   refine RL.cmp_t rfl rfl rfl rfl (by show ((_ : Int) = _); rfl) ?_
   refine RL.pick_f rfl rfl ?_
   refine RL.pick_t rfl rfl ?_
   refine RL.move rfl ?_
   refine RL.move rfl ?_
   refine RL.move rfl ?_
   refine RL.fnQ (v := .bool true) rfl rfl en21 (fun w1 hw1 => f_kept r h20k A cp b cap junk w1 (hrd.stN hw1 (fun b o he => by simp)) hcap2 (hw1.own (b, cel 5 (gcells (lentB r) ++ junk)) (by simp))) rfl ?_
   refine RL.pick_t rfl rfl ?_
   refine RL.move rfl ?_
   refine RL.fn0 rfl rfl rfl en9 (fun w hw => (f_awake w)) rfl ?_
   rintro _ _ rfl
   refine RL.pick_t rfl rfl ?_
   refine RL.assign rfl ?_
   refine RL.nil ?_
   refine X.ret ?_
   exact ret1 rfl rfl
end Go.Proofs.Ytdnnnbjmjjdcfaa

/- The law: what is right. -/
import Derived.Test.YtdnnnbjmjjdcfaaE3
import Derived.Test.YtdnnnbjmjjdcfaaC4
set_option linter.unusedVariables false
set_option linter.unusedSimpArgs false
namespace Go.Proofs.Ytdnnnbjmjjdcfaa
open Go.RowKit
attribute [local irreducible] X RL W Ctr
set_option maxHeartbeats 1000000 in
set_option maxRecDepth 10000 in
theorem w_checks (m : List Cl) (A : Option Addr) (n : Nat) (w : World) (hm : ModR w m A) (hcb : ∀ c ∈ m, ClB c) :
    Ctr Try.prog 3 [.agg #[.slice A m.length n]] w [] fun v _ => v = .bool true := by
 have hm1 := hm
 obtain ⟨bb, oo, hA, hc⟩ := hm.open
 refine Ctr.intro0 (n := 52) Try.func3 rfl Try.ntmps3 (Nat.le_of_ble_eq_true rfl) ?_
 refine X.seq ?_
 refine X.region rfl ?_
 refine RL.boxA rfl rfl rfl ?_
 intro b1 hb1
 dsimp only at hb1
 refine RL.assign rfl ?_
 refine RL.nil ?_
 refine X.seq ?_
 refine X.seq ?_
 refine X.region rfl ?_
 refine RL.loadOA rfl ag24 rfl (show List.take 1 (List.drop 0 [.slice A m.length n]) = [.slice A m.length n] from rfl) rfl ?_
 refine RL.fn (Lp := []) (Lr := [(b1, cel 24 [.slice A m.length n])]) rfl rfl rfl en8 (List.Perm.refl _) (fun w1 hw1 => f_great m A n w1 (hm1.st0 hw1)) rfl ?_
 rintro _ Lz ⟨q, rfl, hq⟩
 refine RL.drop (L' := [(b1, cel 24 [.slice A m.length n])]) rfl (List.sublist_append_right _ _) ?_
 cases q
 rotate_left
 ·refine RL.nil ?_
  refine X.cond_t rfl ?_
  refine X.seq ?_
  refine X.region rfl ?_
  refine RL.fn0 rfl rfl rfl en9 (fun w hw => (f_awake w)) rfl ?_
  rintro _ _ rfl
  refine RL.assign rfl ?_
  refine RL.nil ?_
  refine X.ret ?_
  exact ret1 rfl rfl
 ·obtain ⟨hl12, hsz⟩ := hq rfl
  have hlen : m.length ≤ 1000 := by omega
  refine RL.nil ?_
  refine X.cond_f rfl ?_
  refine X.skip ?_
  refine X.seq ?_
  refine X.region rfl ?_
  refine RL.loadOA rfl ag24 rfl (show List.take 1 (List.drop 0 [.slice A m.length n]) = [.slice A m.length n] from rfl) rfl ?_
  refine RL.fn0 rfl rfl rfl en10 (fun w hw => (f_mcheck m hsz hlen A n w (hm1.st0 hw))) rfl ?_
  rintro _ _ rfl
  refine RL.move rfl ?_
  refine RL.extract rfl rfl rfl ?_
  refine RL.extract rfl rfl rfl ?_
  refine RL.assign rfl ?_
  refine RL.assign rfl ?_
  refine RL.nil ?_
  refine X.seq ?_
  refine X.region rfl ?_
  refine RL.loadOA rfl ag24 rfl (show List.take 1 (List.drop 0 [.slice A m.length n]) = [.slice A m.length n] from rfl) rfl ?_
  refine RL.fn0 rfl rfl rfl en11 (fun w hw => (f_rmcheck m hsz hlen A n w (hm1.st0 hw))) rfl ?_
  rintro _ _ rfl
  refine RL.move rfl ?_
  refine RL.extract rfl rfl rfl ?_
  refine RL.extract rfl rfl rfl ?_
  refine RL.assign rfl ?_
  refine RL.assign rfl ?_
  refine RL.nil ?_
  refine X.seq ?_
  refine X.seq ?_
  refine X.region rfl ?_
  refine RL.assign rfl ?_
  refine RL.nil ?_
  refine X.block ?_
  refine X.loop (γ := Nat) (fun g ρ L => (g ≤ m.length) ∧ Has ρ [(1, .pointer (some ⟨b1, 0, none⟩)), (3, .int .i64 (mcheckP m).1), (4, .int .i64 (mcheckP m).2), (5, .int .i64 (mcheckP m).1), (6, .int .i64 (mcheckP m).2), (7, .int .i64 g)] ∧ L = [(b1, cel 24 [.slice A m.length n])]) (fun g => m.length - g) (0) ⟨_, (by repeat (first | exact List.Sublist.refl _ | exact List.nil_sublist _ | (rw [List.append_nil]; exact List.Sublist.refl _) | exact List.sublist_append_left _ _ | exact (List.sublist_append_left _ _).trans (List.sublist_append_left _ _) | apply List.Sublist.cons_cons | apply List.Sublist.cons | refine List.Sublist.trans ?_ (List.sublist_append_right _ _))), Nat.zero_le _, ⟨rfl, rfl, rfl, rfl, rfl, rfl, trivial⟩, rfl⟩ ?_
  rintro g _ _ ⟨q1, hρ, rfl⟩
  obtain ⟨base, rfl⟩ := hρ.base
  clear hρ
  refine X.seq ?_
  refine X.seq ?_
  refine X.region rfl ?_
  refine RL.move rfl ?_
  refine RL.fieldAddr rfl fd24_0 rfl ?_
  refine RL.loadO rfl sc22 rfl rfl ?_
  refine RL.len rfl sl22 rfl ?_
  refine RL.cmp_s rfl rfl rfl rfl (fun hg => ?_) (fun hg => ?_)
  ·replace hg : (_ : Int) < _ := hg
   obtain ⟨cl, hcl⟩ : ∃ cl, m[g]? = some cl := ⟨_, List.getElem?_eq_getElem (by omega)⟩
   obtain ⟨cs, hcs, hcr⟩ := hc g cl hcl
   have hcz := hsz cl (List.mem_of_getElem? hcl)
   have h19 := hcr.len
   refine RL.nil ?_
   refine X.cond_t rfl ?_
   refine X.skip ?_
   refine X.seq ?_
   refine X.block ?_
   refine X.seq ?_
   refine X.draw (by kernel_rfl) (by kernel_rfl) ?_
   refine RL.fieldAddr rfl fd24_0 rfl ?_
   refine RL.loadO rfl sc22 rfl rfl ?_
   refine RL.move rfl ?_
   refine RL.indexAddr rfl sl22 rfl rfl (hA (by omega)) rfl (by omega) ?_
   refine RL.loadIA rfl ag38 rfl hcs (by simp) h19 ?_
   refine RL.fnQ (v := .int .i64 (ccheckP cl)) rfl rfl en12 (fun w1 hw1 => f_cclass cl cs hcz w1 (hcr.st0 hw1)) rfl ?_
   refine RL.fieldAddr rfl fd24_0 rfl ?_
   refine RL.loadO rfl sc22 rfl rfl ?_
   refine RL.move rfl ?_
   refine RL.indexAddr rfl sl22 rfl rfl (hA (by omega)) rfl (by omega) ?_
   refine RL.loadIA rfl ag38 rfl hcs (by simp) h19 ?_
   refine RL.fnQ (v := .int .i64 (ccheckP cl)) rfl rfl en13 (fun w1 hw1 => f_rcclass cl cs hcz w1 (hcr.st0 hw1)) rfl ?_
   refine RL.cmp_f rfl rfl rfl rfl (by show ¬ ((_ : Int) ≠ _); exact fun h => h rfl) ?_
   refine RL.nil ?_
   refine X.cond_f rfl ?_
   refine X.skip ?_
   refine X.blk ?_
   refine X.region rfl ?_
   refine RL.move rfl ?_
   refine RL.add rfl rfl rfl (by omega) ?_
   refine RL.assign rfl ?_
   refine RL.nil ?_
   refine X.hyp ⟨rfl, g + 1, by omega, _, (by repeat (first | exact List.Sublist.refl _ | exact List.nil_sublist _ | (rw [List.append_nil]; exact List.Sublist.refl _) | exact List.sublist_append_left _ _ | exact (List.sublist_append_left _ _).trans (List.sublist_append_left _ _) | apply List.Sublist.cons_cons | apply List.Sublist.cons | refine List.Sublist.trans ?_ (List.sublist_append_right _ _))), by omega, ⟨rfl, rfl, rfl, rfl, rfl, rfl, trivial⟩, rfl⟩
  ·replace hg : ¬ ((_ : Int) < _) := hg
   refine RL.nil ?_
   refine X.cond_f rfl ?_
   refine X.exit rfl ?_
   refine X.seq ?_
   refine X.region rfl ?_
   refine RL.move rfl ?_
   refine RL.move rfl ?_
   refine RL.cmp_t rfl rfl rfl rfl (by show ((_ : Int) = _); rfl) ?_
   refine RL.move rfl ?_
   refine RL.move rfl ?_
   refine RL.move rfl ?_
   refine RL.cmp_t rfl rfl rfl rfl (by show ((_ : Int) = _); rfl) ?_
   refine RL.pick_t rfl rfl ?_
   refine RL.move rfl ?_
   refine RL.fn0 rfl rfl rfl en9 (fun w hw => (f_awake w)) rfl ?_
   rintro _ _ rfl
   refine RL.pick_t rfl rfl ?_
   refine RL.assign rfl ?_
   refine RL.nil ?_
   refine X.ret ?_
   exact ret1 rfl rfl
end Go.Proofs.Ytdnnnbjmjjdcfaa

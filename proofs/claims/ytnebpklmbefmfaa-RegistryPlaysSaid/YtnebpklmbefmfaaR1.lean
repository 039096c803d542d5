/- The small functions of registries, twice told. -/
import Derived.Test.YtnebpklmbefmfaaReg
set_option linter.unusedVariables false
set_option linter.unusedSimpArgs false
namespace Go.Proofs.Ytnebpklmbefmfaa
open Go.RowKit
attribute [local irreducible] X RL W Ctr
theorem f_mod (i : Int) (rb : Nat) (delay : Int) (xs : List Ms) (ss : List Mv) (w : World) (h : RegR w rb delay xs ss) : Ctr Try.prog 32 [.pointer (some ⟨rb, 0, none⟩), .int .i64 i] w [] fun v _ => v = .pointer ((getM xs i).map fun x => ⟨x.b, 0, none⟩) := by
 obtain ⟨A, cp, h1, bb, oo, hA0, h2⟩ := h.reg
 rw [ptrs_length] at hA0
 refine Ctr.intro0 (n := 27) Try.func32 rfl Try.ntmps32 (Nat.le_of_ble_eq_true rfl) ?_
 refine X.seq ?_
 refine X.region rfl ?_
 refine RL.assign rfl ?_
 refine RL.nil ?_
 refine X.seq ?_
 refine X.seq ?_
 refine X.region rfl ?_
 refine RL.move rfl ?_
 refine RL.eqP rfl Try.underlying24 rfl rfl rfl ?_
 refine RL.move rfl ?_
 refine RL.move rfl ?_
 refine RL.cmp_s rfl rfl rfl rfl (fun c1 => ?_) (fun c1 => ?_)
 ·replace c1 : (_ : Int) < _ := c1
  refine RL.pick_f rfl rfl ?_
  refine RL.move rfl ?_
  refine RL.skip rfl ?_
  refine RL.skip rfl ?_
  refine RL.skip rfl ?_
  refine RL.skip rfl ?_
  refine RL.skip rfl ?_
  refine RL.skip rfl ?_
  refine RL.skip rfl ?_
  refine RL.pick_t rfl rfl ?_
  refine RL.nil ?_
  refine X.cond_t rfl ?_
  refine X.seq ?_
  refine X.region rfl ?_
  refine RL.assign rfl ?_
  refine RL.nil ?_
  refine X.ret ?_
  refine ret1 rfl ?_
  show (_ : Value) = _
  rw [getM_no (.inl c1)]; rfl
 replace c1 : ¬ ((_ : Int) < _) := c1
 refine RL.pick_f rfl rfl ?_
 refine RL.move rfl ?_
 refine RL.move rfl ?_
 refine RL.move rfl ?_
 refine RL.nilCheck rfl rfl ?_
 refine RL.fieldAddr rfl fd83_0 rfl ?_
 refine RL.loadI rfl sc81 rfl (h1 0 _ rfl) (by simp) ?_
 refine RL.len rfl sl81 rfl ?_
 refine RL.cmp_s rfl rfl rfl rfl (fun c2 => ?_) (fun c2 => ?_)
 ·replace c2 : (_ : Int) ≥ _ := c2
  refine RL.pick_f rfl rfl ?_
  refine RL.nil ?_
  refine X.cond_t rfl ?_
  refine X.seq ?_
  refine X.region rfl ?_
  refine RL.assign rfl ?_
  refine RL.nil ?_
  refine X.ret ?_
  refine ret1 rfl ?_
  show (_ : Value) = _
  rw [getM_no (.inr (by omega))]; rfl
 replace c2 : ¬ ((_ : Int) ≥ _) := c2
 obtain ⟨j, rfl⟩ : ∃ j : Nat, i = (j : Int) := ⟨i.toNat, by omega⟩
 obtain ⟨x, hx⟩ : ∃ x, xs[j]? = some x := ⟨_, List.getElem?_eq_getElem (by omega)⟩
 refine RL.pick_f rfl rfl ?_
 refine RL.nil ?_
 refine X.cond_f rfl ?_
 refine X.skip ?_
 refine X.seq ?_
 refine X.region rfl ?_
 refine RL.move rfl ?_
 refine RL.nilCheck rfl rfl ?_
 refine RL.fieldAddr rfl fd83_0 rfl ?_
 refine RL.loadI rfl sc81 rfl (h1 0 _ rfl) (by simp) ?_
 refine RL.move rfl ?_
 refine RL.indexAddr rfl sl81 rfl rfl (hA0 (by omega)) rfl (by omega) ?_
 refine RL.loadI rfl sc89 rfl (by rw [Nat.mul_one]; exact h2 j _ (ptrs_get hx)) (by simp) ?_
 refine RL.assign rfl ?_
 refine RL.nil ?_
 refine X.ret ?_
 refine ret1 rfl ?_
 show (_ : Value) = _
 rw [show getM xs j = some x from by unfold getM; rw [if_neg c1]; simpa using hx]; rfl
theorem f_mod0 (i : Int) (w : World) : Ctr Try.prog 32 [.pointer none, .int .i64 i] w [] fun v _ => v = .pointer none := by
 refine Ctr.intro0 (n := 27) Try.func32 rfl Try.ntmps32 (Nat.le_of_ble_eq_true rfl) ?_
 refine X.seq ?_
 refine X.region rfl ?_
 refine RL.assign rfl ?_
 refine RL.nil ?_
 refine X.seq ?_
 refine X.seq ?_
 refine X.region rfl ?_
 refine RL.move rfl ?_
 refine RL.eqP rfl Try.underlying24 rfl rfl rfl ?_
 refine RL.move rfl ?_
 refine RL.skip rfl ?_
 refine RL.skip rfl ?_
 refine RL.pick_t rfl rfl ?_
 refine RL.move rfl ?_
 refine RL.skip rfl ?_
 refine RL.skip rfl ?_
 refine RL.skip rfl ?_
 refine RL.skip rfl ?_
 refine RL.skip rfl ?_
 refine RL.skip rfl ?_
 refine RL.skip rfl ?_
 refine RL.pick_t rfl rfl ?_
 refine RL.nil ?_
 refine X.cond_t rfl ?_
 refine X.seq ?_
 refine X.region rfl ?_
 refine RL.assign rfl ?_
 refine RL.nil ?_
 refine X.ret ?_
 refine ret1 rfl ?_
 show (_ : Value) = _
 rfl
theorem f_rests (x : Ms) (s : Mv) (w : World) (h : CellsAt w x.b 0 (mCells x s)) : Ctr Try.prog 33 [.pointer (some ⟨x.b, 0, none⟩)] w [] fun v _ => v = .bool (restsP s) := by
 rcases s with ⟨on, c0, c1, c2, idle⟩
 cases on
 ·refine Ctr.intro0 (n := 15) Try.func33 rfl Try.ntmps33 (Nat.le_of_ble_eq_true rfl) ?_
  refine X.seq ?_
  refine X.region rfl ?_
  refine RL.assign rfl ?_
  refine RL.nil ?_
  refine X.seq ?_
  refine X.region rfl ?_
  refine RL.move rfl ?_
  refine RL.nilCheck rfl rfl ?_
  refine RL.fieldAddr rfl fd91_2 rfl ?_
  refine RL.loadI rfl sc4 rfl (h 2 _ rfl) (by simp) ?_
  refine RL.move rfl ?_
  refine RL.skip rfl ?_
  refine RL.skip rfl ?_
  refine RL.skip rfl ?_
  refine RL.skip rfl ?_
  refine RL.skip rfl ?_
  refine RL.skip rfl ?_
  refine RL.pick_f rfl rfl ?_
  refine RL.assign rfl ?_
  refine RL.nil ?_
  refine X.ret ?_
  refine ret1 rfl ?_
  show (_ : Value) = _
  rfl
 refine Ctr.intro0 (n := 15) Try.func33 rfl Try.ntmps33 (Nat.le_of_ble_eq_true rfl) ?_
 refine X.seq ?_
 refine X.region rfl ?_
 refine RL.assign rfl ?_
 refine RL.nil ?_
 refine X.seq ?_
 refine X.region rfl ?_
 refine RL.move rfl ?_
 refine RL.nilCheck rfl rfl ?_
 refine RL.fieldAddr rfl fd91_2 rfl ?_
 refine RL.loadI rfl sc4 rfl (h 2 _ rfl) (by simp) ?_
 refine RL.move rfl ?_
 refine RL.move rfl ?_
 refine RL.nilCheck rfl rfl ?_
 refine RL.fieldAddr rfl fd91_3 rfl ?_
 refine RL.loadIA rfl ag56 rfl (by have := h.sub 3 3; exact this) (by simp) rfl ?_
 refine RL.bldC (vs := []) (cells := [.int .u32 0, .int .u32 0, .int .u32 0]) rfl rfl (fun w => by kernel_rfl) ?_
 refine RL.eqAd rfl eqg_c3 rfl rfl (eq_c3 _ _ _) ?_
 refine RL.pick_t rfl rfl ?_
 refine RL.assign rfl ?_
 refine RL.nil ?_
 refine X.ret ?_
 refine ret1 rfl ?_
 show (_ : Value) = _
 rfl
theorem f_loaded (i : Int) (rb : Nat) (delay : Int) (xs : List Ms) (ss : List Mv) (w : World) (h : RegR w rb delay xs ss) : Ctr Try.prog 15 [.pointer (some ⟨rb, 0, none⟩), .int .i64 i] w [] fun v _ => v = .bool (loadedP ss i) := by
 refine Ctr.intro0 (n := 17) Try.func15 rfl Try.ntmps15 (Nat.le_of_ble_eq_true rfl) ?_
 refine X.seq ?_
 refine X.region rfl ?_
 refine RL.assign rfl ?_
 refine RL.nil ?_
 refine X.seq ?_
 refine X.region rfl ?_
 refine RL.move rfl ?_
 refine RL.move rfl ?_
 refine RL.fn0 rfl rfl rfl en32 (fun w hw => (f_mod i rb delay xs ss w (h.st0 hw))) rfl ?_
 rintro _ _ rfl
 refine RL.drop rfl (List.sublist_append_right _ _) ?_
 refine RL.assign rfl ?_
 refine RL.nil ?_
 refine X.seq ?_
 refine X.region rfl ?_
 refine RL.move rfl ?_
 rcases hg : getM xs i with _ | x
 ·have hgs := getS_none h.len hg
  refine RL.neP rfl Try.underlying89 rfl rfl rfl ?_
  refine RL.move rfl ?_
  refine RL.skip rfl ?_
  refine RL.skip rfl ?_
  refine RL.skip rfl ?_
  refine RL.skip rfl ?_
  refine RL.pick_f rfl rfl ?_
  refine RL.assign rfl ?_
  refine RL.nil ?_
  refine X.ret ?_
  refine ret1 rfl ?_
  show (_ : Value) = _
  unfold loadedP; rw [hgs]; rfl
 obtain ⟨j, s, rfl, hx, hs, hgs⟩ := getS_at h.len hg
 have hc := h.mods j x s hx hs
 refine RL.neP rfl Try.underlying89 rfl rfl rfl ?_
 refine RL.move rfl ?_
 refine RL.move rfl ?_
 refine RL.nilCheck rfl rfl ?_
 refine RL.fieldAddr rfl fd91_2 rfl ?_
 refine RL.loadI rfl sc4 rfl (hc 2 _ rfl) (by simp) ?_
 refine RL.pick_t rfl rfl ?_
 refine RL.assign rfl ?_
 refine RL.nil ?_
 refine X.ret ?_
 refine ret1 rfl ?_
 show (_ : Value) = _
 unfold loadedP; rw [hgs]; rfl
theorem f_loaded0 (i : Int) (w : World) : Ctr Try.prog 15 [.pointer none, .int .i64 i] w [] fun v _ => v = .bool false := by
 refine Ctr.intro0 (n := 17) Try.func15 rfl Try.ntmps15 (Nat.le_of_ble_eq_true rfl) ?_
 refine X.seq ?_
 refine X.region rfl ?_
 refine RL.assign rfl ?_
 refine RL.nil ?_
 refine X.seq ?_
 refine X.region rfl ?_
 refine RL.move rfl ?_
 refine RL.move rfl ?_
 refine RL.fn0 rfl rfl rfl en32 (fun w hw => (f_mod0 i w)) rfl ?_
 rintro _ _ rfl
 refine RL.drop rfl (List.sublist_append_right _ _) ?_
 refine RL.assign rfl ?_
 refine RL.nil ?_
 refine X.seq ?_
 refine X.region rfl ?_
 refine RL.move rfl ?_
 refine RL.neP rfl Try.underlying89 rfl rfl rfl ?_
 refine RL.move rfl ?_
 refine RL.skip rfl ?_
 refine RL.skip rfl ?_
 refine RL.skip rfl ?_
 refine RL.skip rfl ?_
 refine RL.pick_f rfl rfl ?_
 refine RL.assign rfl ?_
 refine RL.nil ?_
 refine X.ret ?_
 refine ret1 rfl ?_
 show (_ : Value) = _
 rfl
theorem f_idle (i : Int) (rb : Nat) (delay : Int) (xs : List Ms) (ss : List Mv) (w : World) (h : RegR w rb delay xs ss) : Ctr Try.prog 23 [.pointer (some ⟨rb, 0, none⟩), .int .i64 i] w [] fun v _ => v = .tuple #[.int .i64 (idleP ss i).1, .bool (idleP ss i).2] := by
 refine Ctr.intro0 (n := 21) Try.func23 rfl Try.ntmps23 (Nat.le_of_ble_eq_true rfl) ?_
 refine X.seq ?_
 refine X.region rfl ?_
 refine RL.assign rfl ?_
 refine RL.assign rfl ?_
 refine RL.nil ?_
 refine X.seq ?_
 refine X.region rfl ?_
 refine RL.move rfl ?_
 refine RL.move rfl ?_
 refine RL.fn0 rfl rfl rfl en32 (fun w hw => (f_mod i rb delay xs ss w (h.st0 hw))) rfl ?_
 rintro _ _ rfl
 refine RL.drop rfl (List.sublist_append_right _ _) ?_
 refine RL.assign rfl ?_
 refine RL.nil ?_
 refine X.seq ?_
 refine X.seq ?_
 refine X.region rfl ?_
 refine RL.move rfl ?_
 rcases hg : getM xs i with _ | x
 ·have hgs := getS_none h.len hg
  refine RL.eqP rfl Try.underlying89 rfl rfl rfl ?_
  refine RL.move rfl ?_
  refine RL.skip rfl ?_
  refine RL.skip rfl ?_
  refine RL.skip rfl ?_
  refine RL.pick_t rfl rfl ?_
  refine RL.nil ?_
  refine X.cond_t rfl ?_
  refine X.seq ?_
  refine X.region rfl ?_
  refine RL.assign rfl ?_
  refine RL.assign rfl ?_
  refine RL.nil ?_
  refine X.ret ?_
  refine ret2 rfl ?_
  show (_ : Value) = _
  unfold idleP; rw [hgs]
 obtain ⟨j, s, rfl, hx, hs, hgs⟩ := getS_at h.len hg
 have hc := h.mods j x s hx hs
 cases hr : restsP s
 ·refine RL.eqP rfl Try.underlying89 rfl rfl rfl ?_
  refine RL.move rfl ?_
  refine RL.move rfl ?_
  refine RL.fn0 rfl rfl rfl en33 (fun w hw => ((f_rests x s w (hc.st0 hw)).mono fun v L h => (by rw [h, hr] : v = .bool false))) rfl ?_
  rintro _ _ rfl
  refine RL.drop rfl (List.sublist_append_right _ _) ?_
  refine RL.not rfl rfl ?_
  refine RL.pick_f rfl rfl ?_
  refine RL.nil ?_
  refine X.cond_t rfl ?_
  refine X.seq ?_
  refine X.region rfl ?_
  refine RL.assign rfl ?_
  refine RL.assign rfl ?_
  refine RL.nil ?_
  refine X.ret ?_
  refine ret2 rfl ?_
  show (_ : Value) = _
  unfold idleP; rw [hgs]; simp [hr]
 refine RL.eqP rfl Try.underlying89 rfl rfl rfl ?_
 refine RL.move rfl ?_
 refine RL.move rfl ?_
 refine RL.fn0 rfl rfl rfl en33 (fun w hw => ((f_rests x s w (hc.st0 hw)).mono fun v L h => (by rw [h, hr] : v = .bool true))) rfl ?_
 rintro _ _ rfl
 refine RL.drop rfl (List.sublist_append_right _ _) ?_
 refine RL.not rfl rfl ?_
 refine RL.pick_f rfl rfl ?_
 refine RL.nil ?_
 refine X.cond_f rfl ?_
 refine X.skip ?_
 refine X.seq ?_
 refine X.region rfl ?_
 refine RL.move rfl ?_
 refine RL.nilCheck rfl rfl ?_
 refine RL.fieldAddr rfl fd91_4 rfl ?_
 refine RL.loadI rfl sc3 rfl (hc 6 _ rfl) (by simp) ?_
 refine RL.assign rfl ?_
 refine RL.assign rfl ?_
 refine RL.nil ?_
 refine X.ret ?_
 refine ret2 rfl ?_
 show (_ : Value) = _
 unfold idleP; rw [hgs]; simp [hr]
theorem f_idle0 (i : Int) (w : World) : Ctr Try.prog 23 [.pointer none, .int .i64 i] w [] fun v _ => v = .tuple #[.int .i64 0, .bool false] := by
 refine Ctr.intro0 (n := 21) Try.func23 rfl Try.ntmps23 (Nat.le_of_ble_eq_true rfl) ?_
 refine X.seq ?_
 refine X.region rfl ?_
 refine RL.assign rfl ?_
 refine RL.assign rfl ?_
 refine RL.nil ?_
 refine X.seq ?_
 refine X.region rfl ?_
 refine RL.move rfl ?_
 refine RL.move rfl ?_
 refine RL.fn0 rfl rfl rfl en32 (fun w hw => (f_mod0 i w)) rfl ?_
 rintro _ _ rfl
 refine RL.drop rfl (List.sublist_append_right _ _) ?_
 refine RL.assign rfl ?_
 refine RL.nil ?_
 refine X.seq ?_
 refine X.seq ?_
 refine X.region rfl ?_
 refine RL.move rfl ?_
 refine RL.eqP rfl Try.underlying89 rfl rfl rfl ?_
 refine RL.move rfl ?_
 refine RL.skip rfl ?_
 refine RL.skip rfl ?_
 refine RL.skip rfl ?_
 refine RL.pick_t rfl rfl ?_
 refine RL.nil ?_
 refine X.cond_t rfl ?_
 refine X.seq ?_
 refine X.region rfl ?_
 refine RL.assign rfl ?_
 refine RL.assign rfl ?_
 refine RL.nil ?_
 refine X.ret ?_
 refine ret2 rfl ?_
 show (_ : Value) = _
 rfl
theorem f_tick (rb cp : Nat) (A : Option Addr) (Lr : List Ent) (delay : Int) (xs : List Ms) (ss : List Mv) (hlen : ss.length = xs.length) (hx5 : xs.length ≤ 1000) (hrow : RowM xs A cp Lr) (w : World) (hown : ∀ p ∈ RegG rb A cp Lr delay xs ss, w.heap[p.1]? = some p.2) (hnd : (keys (RegG rb A cp Lr delay xs ss)).Nodup) : Ctr Try.prog 13 [.pointer (some ⟨rb, 0, none⟩)] w (RegG rb A cp Lr delay xs ss) fun v L => v = .tuple #[] ∧ L = RegG rb A cp Lr delay xs (ss.map tickP) := by
 refine Ctr.intro (n := 25) Try.func13 rfl Try.ntmps13 (Nat.le_of_ble_eq_true rfl) hown hnd ?_
 refine X.seq ?_
 refine X.seq ?_
 refine X.region rfl ?_
 refine RL.move rfl ?_
 refine RL.eqP rfl Try.underlying24 rfl rfl rfl ?_
 refine RL.nil ?_
 refine X.cond_f rfl ?_
 refine X.skip ?_
 refine X.seq ?_
 refine X.region rfl ?_
 refine RL.move rfl ?_
 refine RL.nilCheck rfl rfl ?_
 refine RL.fieldAddr rfl fd83_0 rfl ?_
 refine RL.loadO rfl sc81 rfl rfl ?_
 refine RL.len rfl sl81 rfl ?_
 refine RL.move rfl ?_
 refine RL.nil ?_
 refine X.block ?_
 refine X.loop (γ := Nat) (fun g ρ L => (g ≤ xs.length) ∧ Has ρ [(0, .pointer (some ⟨rb, 0, none⟩)), (9, .slice A xs.length cp), (10, .int .i64 xs.length), (11, .int .i64 g)] ∧ L = RegG rb A cp Lr delay xs (mapT tickP g ss)) (fun g => xs.length - g) (0) ⟨_, (by repeat (first | exact sb0 _ | exact sb1 _ | (rw [List.append_nil]; exact sb0 _) | exact sb2 _ _ | exact sb3 _ _ _ | apply sb4 | apply sb5 | apply sb6)), Nat.zero_le _, ⟨rfl, rfl, rfl, rfl, trivial⟩, rfl⟩ ?_
 rintro g _ _ ⟨q1, hρ, rfl⟩
 obtain ⟨base, rfl⟩ := hρ.base
 clear hρ
 refine X.seq ?_
 refine X.region rfl ?_
 refine RL.cmp_s rfl rfl rfl rfl (fun hg => ?_) (fun hg => ?_)
 ·replace hg : (_ : Int) < _ := hg
  obtain ⟨x, hx⟩ : ∃ x, xs[g]? = some x := ⟨_, List.getElem?_eq_getElem (by omega)⟩
  obtain ⟨s, hs⟩ : ∃ s, ss[g]? = some s := ⟨_, List.getElem?_eq_getElem (by omega)⟩
  have hs2 := mapT_get (f := tickP) hs
  obtain ⟨ab, junk, rfl, rfl⟩ := hrow.open (by omega)
  refine RL.nil ?_
  refine X.seq ?_
  refine X.cond_t rfl ?_
  refine X.skip ?_
  refine X.seq ?_
  refine X.block ?_
  refine X.seq ?_
  refine X.region rfl ?_
  refine RL.indexAddr rfl sl81 rfl rfl rfl rfl (by omega) ?_
  refine RL.loadO rfl sc89 rfl (ptrs_app hx) ?_
  refine RL.assign rfl ?_
  refine RL.nil ?_
  refine X.seq ?_
  refine X.region rfl ?_
  refine RL.move rfl ?_
  refine RL.fn0 rfl rfl rfl en33 (fun w hw => (f_rests x s w (hw.mod (List.mem_cons_of_mem _ (List.mem_append_right _ (ents_mem hx hs2)))))) rfl ?_
  rintro _ _ rfl
  refine RL.drop rfl (List.sublist_append_right _ _) ?_
  refine RL.nil ?_
  refine X.cond_b rfl (fun hr => ?_) (fun hr => ?_)
  ·unfold RegG
   rw [ents_at hx hs2]
   refine X.region rfl ?_
   refine RL.move rfl ?_
   refine RL.nilCheck rfl rfl ?_
   refine RL.fieldAddr rfl fd91_4 rfl ?_
   refine RL.loadO rfl sc3 rfl rfl ?_
   refine RL.addW rfl rfl rfl ?_
   refine RL.nilCheck rfl rfl ?_
   refine RL.fieldAddr rfl fd91_4 rfl ?_
   refine RL.stI rfl rfl sc3.size rfl rfl (by show _ < 7; decide) ?_
   refine RL.nil ?_
   refine X.blk ?_
   refine X.region rfl ?_
   refine RL.add rfl rfl rfl (by omega) ?_
   refine RL.move rfl ?_
   refine RL.nil ?_
   refine X.hyp ⟨rfl, g + 1, by omega, _, (by rw [mapT_succ hs, tickP_t hr, ents_set _ hx hs2]; exact List.Sublist.refl _), by omega, ⟨rfl, rfl, rfl, rfl, trivial⟩, rfl⟩
  refine X.skip ?_
  refine X.blk ?_
  refine X.region rfl ?_
  refine RL.add rfl rfl rfl (by omega) ?_
  refine RL.move rfl ?_
  refine RL.nil ?_
  refine X.hyp ⟨rfl, g + 1, by omega, _, (by rw [mapT_skip hs (tickP_f hr)]; exact List.Sublist.refl _), by omega, ⟨rfl, rfl, rfl, rfl, trivial⟩, rfl⟩
 replace hg : ¬ ((_ : Int) < _) := hg
 refine RL.nil ?_
 refine X.seq ?_
 refine X.cond_f rfl ?_
 refine X.exit rfl ?_
 refine X.nil ?_
 refine end0 rfl ?_
 exact ⟨rfl, by rw [mapT_all (by omega)]⟩
theorem f_tick0 (w : World) : Ctr Try.prog 13 [.pointer none] w [] fun v L => v = .tuple #[] := by
 refine Ctr.intro0 (n := 25) Try.func13 rfl Try.ntmps13 (Nat.le_of_ble_eq_true rfl) ?_
 refine X.seq ?_
 refine X.seq ?_
 refine X.region rfl ?_
 refine RL.move rfl ?_
 refine RL.eqP rfl Try.underlying24 rfl rfl rfl ?_
 refine RL.nil ?_
 refine X.cond_t rfl ?_
 refine X.ret ?_
 exact ret0 rfl rfl
theorem f_free (rb cp : Nat) (A : Option Addr) (Lr : List Ent) (delay : Int) (xs : List Ms) (ss : List Mv) (hlen : ss.length = xs.length) (hx5 : xs.length ≤ 1000) (hrow : RowM xs A cp Lr) (w : World) (hown : ∀ p ∈ RegG rb A cp Lr delay xs ss, w.heap[p.1]? = some p.2) (hnd : (keys (RegG rb A cp Lr delay xs ss)).Nodup) : Ctr Try.prog 14 [.pointer (some ⟨rb, 0, none⟩)] w (RegG rb A cp Lr delay xs ss) fun v L => ∃ Ao co Lo, v = .slice Ao (freedP delay ss xs.length).length co ∧ Row 3 1 (.slice Ao (freedP delay ss xs.length).length co) (ints (freedP delay ss xs.length)) Lo ∧ L = Lo ++ RegG rb A cp Lr delay xs (ss.map (freeP delay)) := by
 refine Ctr.intro (n := 43) Try.func14 rfl Try.ntmps14 (Nat.le_of_ble_eq_true rfl) hown hnd ?_
 refine X.seq ?_
 refine X.region rfl ?_
 refine RL.assign rfl ?_
 refine RL.nil ?_
 refine X.seq ?_
 refine X.seq ?_
 refine X.region rfl ?_
 refine RL.move rfl ?_
 refine RL.eqP rfl Try.underlying24 rfl rfl rfl ?_
 refine RL.nil ?_
 refine X.cond_f rfl ?_
 refine X.skip ?_
 refine X.seq ?_
 refine X.region rfl ?_
 refine RL.assign rfl ?_
 refine RL.nil ?_
 refine X.seq ?_
 refine X.seq ?_
 refine X.region rfl ?_
 refine RL.move rfl ?_
 refine RL.nilCheck rfl rfl ?_
 refine RL.fieldAddr rfl fd83_0 rfl ?_
 refine RL.loadO rfl sc81 rfl rfl ?_
 refine RL.len rfl sl81 rfl ?_
 refine RL.move rfl ?_
 refine RL.nil ?_
 refine X.block ?_
 refine X.loop (γ := Nat) (fun g ρ L => ∃ Ao : Option Addr, ∃ co : Nat, ∃ Lo : List Ent, (g ≤ xs.length) ∧ (Row 3 1 (.slice Ao (freedP delay ss g).length co) (ints (freedP delay ss g)) Lo) ∧ Has ρ [(0, .pointer (some ⟨rb, 0, none⟩)), (3, .slice Ao (freedP delay ss g).length co), (11, .slice A xs.length cp), (12, .int .i64 xs.length), (13, .int .i64 g)] ∧ L = Lo ++ RegG rb A cp Lr delay xs (mapT (freeP delay) g ss)) (fun g => xs.length - g) (0) ⟨_, (by repeat (first | exact sb0 _ | exact sb1 _ | (rw [List.append_nil]; exact sb0 _) | exact sb2 _ _ | exact sb3 _ _ _ | apply sb4 | apply sb5 | apply sb6)), none, 0, [], Nat.zero_le _, Row.nil, ⟨rfl, rfl, rfl, rfl, rfl, trivial⟩, rfl⟩ ?_
 rintro g _ _ ⟨Ao, co, Lo, hg0, hro, hρ, rfl⟩
 obtain ⟨base, rfl⟩ := hρ.base
 clear hρ
 refine X.seq ?_
 refine X.region rfl ?_
 refine RL.cmp_s rfl rfl rfl rfl (fun hg => ?_) (fun hg => ?_)
 ·replace hg : (_ : Int) < _ := hg
  obtain ⟨x, hx⟩ : ∃ x, xs[g]? = some x := ⟨_, List.getElem?_eq_getElem (by omega)⟩
  obtain ⟨s, hs⟩ : ∃ s, ss[g]? = some s := ⟨_, List.getElem?_eq_getElem (by omega)⟩
  have hs2 := mapT_get (f := freeP delay) hs
  have hfl := freedP_le delay ss g
  obtain ⟨ab, junk, rfl, rfl⟩ := hrow.open (by omega)
  unfold RegG
  rw [ents_at hx hs2]
  refine RL.nil ?_
  refine X.seq ?_
  refine X.cond_t rfl ?_
  refine X.skip ?_
  refine X.seq ?_
  refine X.block ?_
  refine X.seq ?_
  refine X.region rfl ?_
  refine RL.move rfl ?_
  refine RL.indexAddr rfl sl81 rfl rfl rfl rfl (by omega) ?_
  refine RL.loadO rfl sc89 rfl (ptrs_app hx) ?_
  refine RL.assign rfl ?_
  refine RL.assign rfl ?_
  refine RL.nil ?_
  refine X.seq ?_
  cases hr : restsP s
  ·refine X.draw (by kernel_rfl) (by kernel_rfl) ?_
   refine RL.move rfl ?_
   refine RL.fnQ (v := .bool false) rfl rfl en33 (fun w hw => (f_rests x s w (hw.mod (by simp))).mono fun v L h => (by rw [h, hr] : v = .bool false)) rfl ?_
   refine RL.move rfl ?_
   refine RL.skip rfl ?_
   refine RL.skip rfl ?_
   refine RL.skip rfl ?_
   refine RL.skip rfl ?_
   refine RL.skip rfl ?_
   refine RL.skip rfl ?_
   refine RL.skip rfl ?_
   refine RL.skip rfl ?_
   refine RL.skip rfl ?_
   refine RL.pick_f rfl rfl ?_
   refine RL.nil ?_
   refine X.cond_f rfl ?_
   refine X.skip ?_
   refine X.blk ?_
   refine X.region rfl ?_
   refine RL.add rfl rfl rfl (by omega) ?_
   refine RL.move rfl ?_
   refine RL.nil ?_
   have hlv : leavesP delay s = false := by unfold leavesP; rw [hr]; rfl
   refine X.hyp ⟨rfl, g + 1, by omega, _, (by rw [mapT_skip hs (freeP_f hlv), ← ents_at hx hs2]; exact List.Sublist.refl _), Ao, co, Lo, by omega, by rw [freedP_succ hs, hlv]; simpa using hro, ⟨rfl, by rw [freedP_succ hs, hlv]; simp; rfl, rfl, rfl, rfl, trivial⟩, rfl⟩
  refine X.draw (by kernel_rfl) (by kernel_rfl) ?_
  refine RL.move rfl ?_
  refine RL.fnQ (v := .bool true) rfl rfl en33 (fun w hw => (f_rests x s w (hw.mod (by simp))).mono fun v L h => (by rw [h, hr] : v = .bool true)) rfl ?_
  refine RL.move rfl ?_
  refine RL.move rfl ?_
  refine RL.nilCheck rfl rfl ?_
  refine RL.fieldAddr rfl fd91_4 rfl ?_
  refine RL.loadO rfl sc3 rfl rfl ?_
  refine RL.move rfl ?_
  refine RL.nilCheck rfl rfl ?_
  refine RL.fieldAddr rfl fd83_1 rfl ?_
  refine RL.loadO rfl sc3 rfl rfl ?_
  refine RL.cmp_s rfl rfl rfl rfl (fun hd => ?_) (fun hd => ?_)
  ·replace hd : (_ : Int) ≥ _ := hd
   have hlv : leavesP delay s = true := by unfold leavesP; rw [hr, decide_eq_true hd]; rfl
   refine RL.pick_t rfl rfl ?_
   refine RL.nil ?_
   refine X.cond_t rfl ?_
   refine X.seq ?_
   refine X.region rfl ?_
   refine RL.move rfl ?_
   refine RL.move rfl ?_
   refine RL.nilCheck rfl rfl ?_
   refine RL.fieldAddr rfl fd91_2 rfl ?_
   refine RL.stB rfl rfl sc4.size rfl rfl (by show _ < 7; decide) ?_
   refine RL.nilCheck rfl rfl ?_
   refine RL.fieldAddr rfl fd91_4 rfl ?_
   refine RL.stI rfl rfl sc3.size rfl rfl (by show _ < 7; decide) ?_
   refine RL.nil ?_
   refine X.region rfl ?_
   refine RL.move rfl ?_
   refine RL.move rfl ?_
   refine RL.bs1I rfl rfl sl38 zt3 rfl ?_
   intro bb hbb
   have hL : ents (xs.take g) ((mapT (freeP delay) g ss).take g) ++ (x.b, cel 91 (((mCells x s).set (0 + 2) (.bool false)).set (0 + 6) (.int .i64 0))) :: ents (xs.drop (g + 1)) ((mapT (freeP delay) g ss).drop (g + 1)) = ents xs (mapT (freeP delay) (g + 1) ss) := by
     rw [mapT_succ hs, freeP_t hlv, ents_set _ hx hs2]; rfl
   rw [hL]
   refine RL.app1I (Lr := Lo) (Lz := ((rb, cel 83 [.slice (some ⟨ab, 0, none⟩) xs.length cp, .int .i64 delay]) :: ([(ab, cel 89 (ptrs xs ++ junk))] ++ ents xs (mapT (freeP delay) (g + 1) ss)))) rfl rfl sl38 el_int Try.underlying38 (List.Perm.refl _) rfl rfl hro (by rw [ints_length]; omega) (n := (freedP delay ss g ++ [(g : Int)]).length) (by rw [ints_length]; simp) ?_
   intro A3 cp3 Lr3 hr3
   rw [← ints_snoc] at hr3
   have hF : freedP delay ss (g + 1) = freedP delay ss g ++ [(g : Int)] := by rw [freedP_succ hs, hlv]; rfl
   rw [← hF] at hr3 ⊢
   refine RL.assign rfl ?_
   refine RL.nil ?_
   refine X.blk ?_
   refine X.region rfl ?_
   refine RL.add rfl rfl rfl (by omega) ?_
   refine RL.move rfl ?_
   refine RL.nil ?_
   refine X.hyp ⟨rfl, g + 1, by omega, _, (List.Sublist.append (List.Sublist.refl _) (List.sublist_append_left _ _)), A3, cp3, Lr3, by omega, hr3, ⟨rfl, rfl, rfl, rfl, rfl, trivial⟩, rfl⟩
  replace hd : ¬ ((_ : Int) ≥ _) := hd
  have hlv : leavesP delay s = false := by unfold leavesP; rw [hr, decide_eq_false hd]; rfl
  refine RL.pick_t rfl rfl ?_
  refine RL.nil ?_
  refine X.cond_f rfl ?_
  refine X.skip ?_
  refine X.blk ?_
  refine X.region rfl ?_
  refine RL.add rfl rfl rfl (by omega) ?_
  refine RL.move rfl ?_
  refine RL.nil ?_
  refine X.hyp ⟨rfl, g + 1, by omega, _, (by rw [mapT_skip hs (freeP_f hlv), ← ents_at hx hs2]; exact List.Sublist.refl _), Ao, co, Lo, by omega, by rw [freedP_succ hs, hlv]; simpa using hro, ⟨rfl, by rw [freedP_succ hs, hlv]; simp; rfl, rfl, rfl, rfl, trivial⟩, rfl⟩
 replace hg : ¬ ((_ : Int) < _) := hg
 refine RL.nil ?_
 refine X.seq ?_
 refine X.cond_f rfl ?_
 refine X.exit rfl ?_
 refine X.seq ?_
 refine X.region rfl ?_
 refine RL.move rfl ?_
 refine RL.assign rfl ?_
 refine RL.nil ?_
 refine X.ret ?_
 refine ret1 rfl ?_
 have e : g = xs.length := by omega
 subst e
 exact ⟨Ao, co, Lo, rfl, hro, by rw [mapT_all (by omega)]⟩
theorem f_free0 (w : World) : Ctr Try.prog 14 [.pointer none] w [] fun v L => v = .slice none 0 0 := by
 refine Ctr.intro0 (n := 43) Try.func14 rfl Try.ntmps14 (Nat.le_of_ble_eq_true rfl) ?_
 refine X.seq ?_
 refine X.region rfl ?_
 refine RL.assign rfl ?_
 refine RL.nil ?_
 refine X.seq ?_
 refine X.seq ?_
 refine X.region rfl ?_
 refine RL.move rfl ?_
 refine RL.eqP rfl Try.underlying24 rfl rfl rfl ?_
 refine RL.nil ?_
 refine X.cond_t rfl ?_
 refine X.seq ?_
 refine X.region rfl ?_
 refine RL.assign rfl ?_
 refine RL.nil ?_
 refine X.ret ?_
 exact ret1 rfl rfl
theorem f_count (i what : Int) (up : Bool) (rb cp : Nat) (A : Option Addr) (Lr : List Ent) (delay : Int) (xs : List Ms) (ss : List Mv) (hlen : ss.length = xs.length) (hx5 : xs.length ≤ 1000) (hrow : RowM xs A cp Lr) (w : World) (hown : ∀ p ∈ RegG rb A cp Lr delay xs ss, w.heap[p.1]? = some p.2) (hnd : (keys (RegG rb A cp Lr delay xs ss)).Nodup) : Ctr Try.prog 12 [.pointer (some ⟨rb, 0, none⟩), .int .i64 i, .int .i64 what, .bool up] w (RegG rb A cp Lr delay xs ss) fun v L => v = .int .i64 (countP ss i what up).1 ∧ L = RegG rb A cp Lr delay xs (countP ss i what up).2 := by
 refine Ctr.intro (n := 63) Try.func12 rfl Try.ntmps12 (Nat.le_of_ble_eq_true rfl) hown hnd ?_
 refine X.seq ?_
 refine X.region rfl ?_
 refine RL.assign rfl ?_
 refine RL.nil ?_
 refine X.seq ?_
 refine X.region rfl ?_
 refine RL.move rfl ?_
 refine RL.move rfl ?_
 refine RL.fn0 rfl rfl rfl en32 (fun w hw => (f_mod i rb delay xs ss w (regG_reads hw hrow hlen (fun p hp => hp)))) rfl ?_
 rintro _ _ rfl
 refine RL.drop rfl (List.sublist_append_right _ _) ?_
 refine RL.assign rfl ?_
 refine RL.nil ?_
 refine X.seq ?_
 refine X.seq ?_
 refine X.region rfl ?_
 refine RL.move rfl ?_
 rcases hg : getM xs i with _ | x
 ·refine RL.eqP rfl Try.underlying89 rfl rfl rfl ?_
  refine RL.move rfl ?_
  refine RL.skip rfl ?_
  refine RL.skip rfl ?_
  refine RL.pick_t rfl rfl ?_
  refine RL.move rfl ?_
  refine RL.skip rfl ?_
  refine RL.skip rfl ?_
  refine RL.pick_t rfl rfl ?_
  refine RL.nil ?_
  refine X.cond_t rfl ?_
  refine X.seq ?_
  refine X.region rfl ?_
  refine RL.assign rfl ?_
  refine RL.nil ?_
  refine X.ret ?_
  refine ret1 rfl ?_
  show (_ : Value) = _ ∧ _
  rw [countP_bad hlen (.inl hg)]; exact ⟨rfl, rfl⟩
 obtain ⟨j, s, rfl, hx, hs, hgs⟩ := getS_at hlen hg
 refine RL.eqP rfl Try.underlying89 rfl rfl rfl ?_
 refine RL.move rfl ?_
 refine RL.move rfl ?_
 refine RL.cmp_s rfl rfl rfl rfl (fun h1 => ?_) (fun h1 => ?_)
 ·replace h1 : (_ : Int) < _ := h1
  refine RL.pick_f rfl rfl ?_
  refine RL.move rfl ?_
  refine RL.skip rfl ?_
  refine RL.skip rfl ?_
  refine RL.pick_t rfl rfl ?_
  refine RL.nil ?_
  refine X.cond_t rfl ?_
  refine X.seq ?_
  refine X.region rfl ?_
  refine RL.assign rfl ?_
  refine RL.nil ?_
  refine X.ret ?_
  refine ret1 rfl ?_
  show (_ : Value) = _ ∧ _
  rw [countP_bad hlen (.inr (.inl h1))]; exact ⟨rfl, rfl⟩
 replace h1 : ¬ ((_ : Int) < _) := h1
 refine RL.pick_f rfl rfl ?_
 refine RL.move rfl ?_
 refine RL.move rfl ?_
 refine RL.cmp_s rfl rfl rfl rfl (fun h2 => ?_) (fun h2 => ?_)
 ·replace h2 : (_ : Int) > _ := h2
  refine RL.pick_f rfl rfl ?_
  refine RL.nil ?_
  refine X.cond_t rfl ?_
  refine X.seq ?_
  refine X.region rfl ?_
  refine RL.assign rfl ?_
  refine RL.nil ?_
  refine X.ret ?_
  refine ret1 rfl ?_
  show (_ : Value) = _ ∧ _
  rw [countP_bad hlen (.inr (.inr h2))]; exact ⟨rfl, rfl⟩
 replace h2 : ¬ ((_ : Int) > _) := h2
 obtain ⟨k, rfl⟩ : ∃ k : Nat, what = (k : Int) := ⟨what.toNat, by omega⟩
 have hk : k < 3 := by omega
 unfold RegG
 rw [ents_at hx hs]
 cases up
 ·refine RL.pick_f rfl rfl ?_
  refine RL.nil ?_
  refine X.cond_f rfl ?_
  refine X.skip ?_
  refine X.seq ?_
  refine X.region rfl ?_
  refine RL.move rfl ?_
  refine RL.move rfl ?_
  refine RL.nilCheck rfl rfl ?_
  refine RL.fieldAddr rfl fd91_3 rfl ?_
  refine RL.indexArr (sz := 1) rfl Try.underlying56 sc55.size rfl rfl rfl (by omega) ?_
  refine RL.assign rfl ?_
  refine RL.nil ?_
  refine X.seq ?_
  refine X.seq ?_
  refine X.region rfl ?_
  refine RL.move rfl ?_
  refine RL.move rfl ?_
  refine RL.skip rfl ?_
  refine RL.skip rfl ?_
  refine RL.skip rfl ?_
  refine RL.skip rfl ?_
  refine RL.pick_f rfl rfl ?_
  refine RL.move rfl ?_
  refine RL.move rfl ?_
  refine RL.not rfl rfl ?_
  refine RL.move rfl ?_
  refine RL.move rfl ?_
  refine RL.nilCheck rfl rfl ?_
  refine RL.loadO rfl sc55 rfl (mCells_c x s hk) ?_
  refine RL.cmp_s rfl rfl rfl rfl (fun he => ?_) (fun he => ?_)
  ·replace he : (_ : Int) = _ := he
   refine RL.pick_t rfl rfl ?_
   refine RL.pick_f rfl rfl ?_
   refine RL.nil ?_
   refine X.cond_t rfl ?_
   refine X.seq ?_
   refine X.region rfl ?_
   refine RL.assign rfl ?_
   refine RL.nil ?_
   refine X.ret ?_
   refine ret1 rfl ?_
   show (_ : Value) = _ ∧ _
   rw [countP_at hs hk, if_pos (.inr ⟨rfl, he⟩)]; exact ⟨rfl, by rw [ents_at hx hs]⟩
  replace he : ¬ ((_ : Int) = _) := he
  refine RL.pick_t rfl rfl ?_
  refine RL.pick_f rfl rfl ?_
  refine RL.nil ?_
  refine X.cond_f rfl ?_
  refine X.skip ?_
  refine X.seq ?_
  refine X.seq ?_
  refine X.region rfl ?_
  refine RL.move rfl ?_
  refine RL.nil ?_
  refine X.cond_f rfl ?_
  refine X.region rfl ?_
  refine RL.move rfl ?_
  refine RL.nilCheck rfl rfl ?_
  refine RL.loadO rfl sc55 rfl (mCells_c x s hk) ?_
  refine RL.subW rfl rfl rfl ?_
  refine RL.nilCheck rfl rfl ?_
  refine RL.stI rfl rfl sc55.size rfl rfl (by show _ < 7; omega) ?_
  refine RL.nil ?_
  refine X.seq ?_
  refine X.region rfl ?_
  refine RL.move rfl ?_
  refine RL.move rfl ?_
  refine RL.nilCheck rfl rfl ?_
  refine RL.fieldAddr rfl fd91_2 rfl ?_
  refine RL.stB rfl rfl sc4.size rfl rfl (by simp [mCells, Mv.cells]) ?_
  refine RL.nilCheck rfl rfl ?_
  refine RL.fieldAddr rfl fd91_4 rfl ?_
  refine RL.stI rfl rfl sc3.size rfl rfl (by simp [mCells, Mv.cells]) ?_
  refine RL.nil ?_
  refine X.seq ?_
  refine X.region rfl ?_
  refine RL.assign rfl ?_
  refine RL.nil ?_
  refine X.ret ?_
  refine ret1 rfl ?_
  show (_ : Value) = _ ∧ _
  rw [mCells_put x s _ hk, countP_at hs hk, if_neg (by rintro (⟨h, h2⟩ | ⟨h, h2⟩) <;> first | exact he h2 | cases h)]
  exact ⟨rfl, by rw [ents_set _ hx hs]; rfl⟩
 refine RL.pick_f rfl rfl ?_
 refine RL.nil ?_
 refine X.cond_f rfl ?_
 refine X.skip ?_
 refine X.seq ?_
 refine X.region rfl ?_
 refine RL.move rfl ?_
 refine RL.move rfl ?_
 refine RL.nilCheck rfl rfl ?_
 refine RL.fieldAddr rfl fd91_3 rfl ?_
 refine RL.indexArr (sz := 1) rfl Try.underlying56 sc55.size rfl rfl rfl (by omega) ?_
 refine RL.assign rfl ?_
 refine RL.nil ?_
 refine X.seq ?_
 refine X.seq ?_
 refine X.region rfl ?_
 refine RL.move rfl ?_
 refine RL.move rfl ?_
 refine RL.move rfl ?_
 refine RL.nilCheck rfl rfl ?_
 refine RL.loadO rfl sc55 rfl (mCells_c x s hk) ?_
 refine RL.cmp_s rfl rfl rfl rfl (fun he => ?_) (fun he => ?_)
 ·replace he : (_ : Int) = _ := he
  refine RL.pick_t rfl rfl ?_
  refine RL.move rfl ?_
  refine RL.skip rfl ?_
  refine RL.skip rfl ?_
  refine RL.skip rfl ?_
  refine RL.skip rfl ?_
  refine RL.skip rfl ?_
  refine RL.skip rfl ?_
  refine RL.skip rfl ?_
  refine RL.skip rfl ?_
  refine RL.pick_t rfl rfl ?_
  refine RL.nil ?_
  refine X.cond_t rfl ?_
  refine X.seq ?_
  refine X.region rfl ?_
  refine RL.assign rfl ?_
  refine RL.nil ?_
  refine X.ret ?_
  refine ret1 rfl ?_
  show (_ : Value) = _ ∧ _
  rw [countP_at hs hk, if_pos (.inl ⟨rfl, he⟩)]; exact ⟨rfl, by rw [ents_at hx hs]⟩
 replace he : ¬ ((_ : Int) = _) := he
 refine RL.pick_t rfl rfl ?_
 refine RL.move rfl ?_
 refine RL.move rfl ?_
 refine RL.not rfl rfl ?_
 refine RL.move rfl ?_
 refine RL.skip rfl ?_
 refine RL.skip rfl ?_
 refine RL.skip rfl ?_
 refine RL.skip rfl ?_
 refine RL.pick_f rfl rfl ?_
 refine RL.pick_f rfl rfl ?_
 refine RL.nil ?_
 refine X.cond_f rfl ?_
 refine X.skip ?_
 refine X.seq ?_
 refine X.seq ?_
 refine X.region rfl ?_
 refine RL.move rfl ?_
 refine RL.nil ?_
 refine X.cond_t rfl ?_
 refine X.region rfl ?_
 refine RL.move rfl ?_
 refine RL.nilCheck rfl rfl ?_
 refine RL.loadO rfl sc55 rfl (mCells_c x s hk) ?_
 refine RL.addW rfl rfl rfl ?_
 refine RL.nilCheck rfl rfl ?_
 refine RL.stI rfl rfl sc55.size rfl rfl (by show _ < 7; omega) ?_
 refine RL.nil ?_
 refine X.seq ?_
 refine X.region rfl ?_
 refine RL.move rfl ?_
 refine RL.move rfl ?_
 refine RL.nilCheck rfl rfl ?_
 refine RL.fieldAddr rfl fd91_2 rfl ?_
 refine RL.stB rfl rfl sc4.size rfl rfl (by simp [mCells, Mv.cells]) ?_
 refine RL.nilCheck rfl rfl ?_
 refine RL.fieldAddr rfl fd91_4 rfl ?_
 refine RL.stI rfl rfl sc3.size rfl rfl (by simp [mCells, Mv.cells]) ?_
 refine RL.nil ?_
 refine X.seq ?_
 refine X.region rfl ?_
 refine RL.assign rfl ?_
 refine RL.nil ?_
 refine X.ret ?_
 refine ret1 rfl ?_
 show (_ : Value) = _ ∧ _
 rw [mCells_put x s _ hk, countP_at hs hk, if_neg (by rintro (⟨h, h2⟩ | ⟨h, h2⟩) <;> first | exact he h2 | cases h)]
 exact ⟨rfl, by rw [ents_set _ hx hs]; rfl⟩
theorem f_count0 (i what : Int) (up : Bool) (w : World) : Ctr Try.prog 12 [.pointer none, .int .i64 i, .int .i64 what, .bool up] w [] fun v L => v = .int .i64 1 := by
 refine Ctr.intro0 (n := 63) Try.func12 rfl Try.ntmps12 (Nat.le_of_ble_eq_true rfl) ?_
 refine X.seq ?_
 refine X.region rfl ?_
 refine RL.assign rfl ?_
 refine RL.nil ?_
 refine X.seq ?_
 refine X.region rfl ?_
 refine RL.move rfl ?_
 refine RL.move rfl ?_
 refine RL.fn0 rfl rfl rfl en32 (fun w hw => (f_mod0 i w)) rfl ?_
 rintro _ _ rfl
 refine RL.drop rfl (List.sublist_append_right _ _) ?_
 refine RL.assign rfl ?_
 refine RL.nil ?_
 refine X.seq ?_
 refine X.seq ?_
 refine X.region rfl ?_
 refine RL.move rfl ?_
 refine RL.eqP rfl Try.underlying89 rfl rfl rfl ?_
 refine RL.move rfl ?_
 refine RL.skip rfl ?_
 refine RL.skip rfl ?_
 refine RL.pick_t rfl rfl ?_
 refine RL.move rfl ?_
 refine RL.skip rfl ?_
 refine RL.skip rfl ?_
 refine RL.pick_t rfl rfl ?_
 refine RL.nil ?_
 refine X.cond_t rfl ?_
 refine X.seq ?_
 refine X.region rfl ?_
 refine RL.assign rfl ?_
 refine RL.nil ?_
 refine X.ret ?_
 exact ret1 rfl rfl
theorem f_isidle (v : Value) (s : Mv) (w : World) : Ctr Try.prog 24 [.agg (rEl v s).toArray] w [] fun r _ => r = .bool (restsP s) := by
 rcases s with ⟨on, c0, c1, c2, idle⟩
 cases on
 ·refine Ctr.intro0 (n := 23) Try.func24 rfl Try.ntmps24 (Nat.le_of_ble_eq_true rfl) ?_
  refine X.seq ?_
  refine X.region rfl ?_
  refine RL.boxA rfl rfl rfl ?_
  intro b1 hb1
  dsimp only at hb1
  refine RL.assign rfl ?_
  refine RL.nil ?_
  refine X.seq ?_
  refine X.region rfl ?_
  refine RL.fieldAddr rfl fd58_1 rfl ?_
  refine RL.loadO rfl sc4 rfl rfl ?_
  refine RL.move rfl ?_
  refine RL.skip rfl ?_
  refine RL.skip rfl ?_
  refine RL.skip rfl ?_
  refine RL.skip rfl ?_
  refine RL.pick_f rfl rfl ?_
  refine RL.move rfl ?_
  refine RL.skip rfl ?_
  refine RL.skip rfl ?_
  refine RL.skip rfl ?_
  refine RL.skip rfl ?_
  refine RL.pick_f rfl rfl ?_
  refine RL.move rfl ?_
  refine RL.skip rfl ?_
  refine RL.skip rfl ?_
  refine RL.skip rfl ?_
  refine RL.skip rfl ?_
  refine RL.pick_f rfl rfl ?_
  refine RL.assign rfl ?_
  refine RL.nil ?_
  refine X.ret ?_
  refine ret1 rfl ?_
  show (_ : Value) = _
  rfl
 refine Ctr.intro0 (n := 23) Try.func24 rfl Try.ntmps24 (Nat.le_of_ble_eq_true rfl) ?_
 refine X.seq ?_
 refine X.region rfl ?_
 refine RL.boxA rfl rfl rfl ?_
 intro b1 hb1
 dsimp only at hb1
 refine RL.assign rfl ?_
 refine RL.nil ?_
 refine X.seq ?_
 refine X.region rfl ?_
 refine RL.fieldAddr rfl fd58_1 rfl ?_
 refine RL.loadO rfl sc4 rfl rfl ?_
 refine RL.move rfl ?_
 refine RL.fieldAddr rfl fd58_2 rfl ?_
 refine RL.indexArr (sz := 1) rfl Try.underlying56 sc55.size rfl rfl rfl (by decide) ?_
 refine RL.loadO rfl sc55 rfl rfl ?_
 refine RL.cmp_s rfl rfl rfl rfl (fun h0 => ?_) (fun h0 => ?_)
 ·replace h0 : (_ : Int) = _ := h0
  refine RL.pick_t rfl rfl ?_
  refine RL.move rfl ?_
  refine RL.fieldAddr rfl fd58_2 rfl ?_
  refine RL.indexArr (sz := 1) rfl Try.underlying56 sc55.size rfl rfl rfl (by decide) ?_
  refine RL.loadO rfl sc55 rfl rfl ?_
  refine RL.cmp_s rfl rfl rfl rfl (fun h1 => ?_) (fun h1 => ?_)
  ·replace h1 : (_ : Int) = _ := h1
   refine RL.pick_t rfl rfl ?_
   refine RL.move rfl ?_
   refine RL.fieldAddr rfl fd58_2 rfl ?_
   refine RL.indexArr (sz := 1) rfl Try.underlying56 sc55.size rfl rfl rfl (by decide) ?_
   refine RL.loadO rfl sc55 rfl rfl ?_
   refine RL.cmp_s rfl rfl rfl rfl (fun h2 => ?_) (fun h2 => ?_)
   ·replace h2 : (_ : Int) = _ := h2
    refine RL.pick_t rfl rfl ?_
    refine RL.assign rfl ?_
    refine RL.nil ?_
    refine X.ret ?_
    refine ret1 rfl ?_
    show (_ : Value) = _
    congr 1
    unfold restsP
    rw [Bool.true_and]
    first | exact (decide_eq_true (by show _ ∧ _ ∧ _; omega)).symm | exact (decide_eq_false (by show ¬ (_ ∧ _ ∧ _); omega)).symm
   replace h2 : ¬ ((_ : Int) = _) := h2
   refine RL.pick_t rfl rfl ?_
   refine RL.assign rfl ?_
   refine RL.nil ?_
   refine X.ret ?_
   refine ret1 rfl ?_
   show (_ : Value) = _
   congr 1
   unfold restsP
   rw [Bool.true_and]
   first | exact (decide_eq_true (by show _ ∧ _ ∧ _; omega)).symm | exact (decide_eq_false (by show ¬ (_ ∧ _ ∧ _); omega)).symm
  replace h1 : ¬ ((_ : Int) = _) := h1
  refine RL.pick_t rfl rfl ?_
  refine RL.move rfl ?_
  refine RL.skip rfl ?_
  refine RL.skip rfl ?_
  refine RL.skip rfl ?_
  refine RL.skip rfl ?_
  refine RL.pick_f rfl rfl ?_
  refine RL.assign rfl ?_
  refine RL.nil ?_
  refine X.ret ?_
  refine ret1 rfl ?_
  show (_ : Value) = _
  congr 1
  unfold restsP
  rw [Bool.true_and]
  first | exact (decide_eq_true (by show _ ∧ _ ∧ _; omega)).symm | exact (decide_eq_false (by show ¬ (_ ∧ _ ∧ _); omega)).symm
 replace h0 : ¬ ((_ : Int) = _) := h0
 refine RL.pick_t rfl rfl ?_
 refine RL.move rfl ?_
 refine RL.skip rfl ?_
 refine RL.skip rfl ?_
 refine RL.skip rfl ?_
 refine RL.skip rfl ?_
 refine RL.pick_f rfl rfl ?_
 refine RL.move rfl ?_
 refine RL.skip rfl ?_
 refine RL.skip rfl ?_
 refine RL.skip rfl ?_
 refine RL.skip rfl ?_
 refine RL.pick_f rfl rfl ?_
 refine RL.assign rfl ?_
 refine RL.nil ?_
 refine X.ret ?_
 refine ret1 rfl ?_
 show (_ : Value) = _
 congr 1
 unfold restsP
 rw [Bool.true_and]
 first | exact (decide_eq_true (by show _ ∧ _ ∧ _; omega)).symm | exact (decide_eq_false (by show ¬ (_ ∧ _ ∧ _); omega)).symm
theorem f_xtick (xb cb cp n : Nat) (junk : List Value) (delay : Int) (vs : List Value) (ss : List Mv) (hlen : vs.length = ss.length) (hx5 : ss.length ≤ 1000) (hn : n = ss.length) (w : World) (hown : ∀ p ∈ RefG xb cb cp junk delay vs ss n, w.heap[p.1]? = some p.2) (hnd : (keys (RefG xb cb cp junk delay vs ss n)).Nodup) : Ctr Try.prog 20 [.pointer (some ⟨xb, 0, none⟩)] w (RefG xb cb cp junk delay vs (ss) n) fun v L => v = .tuple #[] ∧ L = RefG xb cb cp junk delay vs (ss.map tickP) n := by
 subst hn
 refine Ctr.intro (n := 31) Try.func20 rfl Try.ntmps20 (Nat.le_of_ble_eq_true rfl) hown hnd ?_
 refine X.seq ?_
 refine X.region rfl ?_
 refine RL.assign rfl ?_
 refine RL.nil ?_
 refine X.block ?_
 refine X.loop (γ := Nat) (fun g ρ L => (g ≤ ss.length) ∧ Has ρ [(0, .pointer (some ⟨xb, 0, none⟩)), (2, .int .i64 g)] ∧ L = RefG xb cb cp junk delay vs (mapT tickP g ss) ss.length) (fun g => ss.length - g) (0) ⟨_, (by repeat (first | exact sb0 _ | exact sb1 _ | (rw [List.append_nil]; exact sb0 _) | exact sb2 _ _ | exact sb3 _ _ _ | apply sb4 | apply sb5 | apply sb6)), Nat.zero_le _, ⟨rfl, rfl, trivial⟩, rfl⟩ ?_
 rintro g _ _ ⟨q1, hρ, rfl⟩
 obtain ⟨base, rfl⟩ := hρ.base
 clear hρ
 refine X.seq ?_
 refine X.seq ?_
 refine X.region rfl ?_
 refine RL.move rfl ?_
 refine RL.move rfl ?_
 refine RL.nilCheck rfl rfl ?_
 refine RL.fieldAddr rfl fd61_0 rfl ?_
 refine RL.loadO rfl sc59 rfl rfl ?_
 refine RL.len rfl sl59 rfl ?_
 refine RL.cmp_s rfl rfl rfl rfl (fun hg => ?_) (fun hg => ?_)
 ·replace hg : (_ : Int) < _ := hg
  obtain ⟨v, hv⟩ : ∃ v, vs[g]? = some v := ⟨_, List.getElem?_eq_getElem (by omega)⟩
  obtain ⟨s, hs⟩ : ∃ s, ss[g]? = some s := ⟨_, List.getElem?_eq_getElem (by omega)⟩
  have hs2 := mapT_get (f := tickP) hs
  refine RL.nil ?_
  refine X.cond_t rfl ?_
  refine X.skip ?_
  refine X.seq ?_
  refine X.block ?_
  refine X.seq ?_
  refine X.region rfl ?_
  refine RL.move rfl ?_
  refine RL.nilCheck rfl rfl ?_
  refine RL.fieldAddr rfl fd61_0 rfl ?_
  refine RL.loadO rfl sc59 rfl rfl ?_
  refine RL.move rfl ?_
  refine RL.indexAddr rfl sl59 rfl rfl rfl rfl (by omega) ?_
  refine RL.loadOA rfl ag58 rfl (rcells_take hv hs2) (rEl_len _ _) ?_
  refine RL.fn0 rfl rfl rfl en24 (fun w hw => (f_isidle v s w)) rfl ?_
  rintro _ _ rfl
  refine RL.drop rfl (List.sublist_append_right _ _) ?_
  refine RL.nil ?_
  refine X.cond_b rfl (fun hr => ?_) (fun hr => ?_)
  ·refine X.region rfl ?_
   refine RL.move rfl ?_
   refine RL.nilCheck rfl rfl ?_
   refine RL.fieldAddr rfl fd61_0 rfl ?_
   refine RL.loadO rfl sc59 rfl rfl ?_
   refine RL.move rfl ?_
   refine RL.indexAddr rfl sl59 rfl rfl rfl rfl (by omega) ?_
   refine RL.fieldAddr rfl fd58_3 rfl ?_
   refine RL.loadO rfl sc3 rfl (rcells_get hv hs2 (by decide)) ?_
   refine RL.addW rfl rfl rfl ?_
   refine RL.indexAddr rfl sl59 rfl rfl rfl rfl (by omega) ?_
   refine RL.fieldAddr rfl fd58_3 rfl ?_
   refine RL.stI rfl rfl sc3.size rfl rfl (by have := (List.getElem?_eq_some_iff.1 hs).1; rw [List.length_append, rcells_len (by rw [mapT_len]; exact hlen), mapT_len]; omega) ?_
   refine RL.nil ?_
   refine X.blk ?_
   refine X.region rfl ?_
   refine RL.move rfl ?_
   refine RL.add rfl rfl rfl (by omega) ?_
   refine RL.assign rfl ?_
   refine RL.nil ?_
   refine X.hyp ⟨rfl, g + 1, by omega, _, (by rw [mapT_succ hs, rcells_set (s' := tickP s) hv hs2 (by decide) (by rw [tickP_t hr]; rfl)]; exact List.Sublist.refl _), by omega, ⟨rfl, rfl, trivial⟩, rfl⟩
  refine X.skip ?_
  refine X.blk ?_
  refine X.region rfl ?_
  refine RL.move rfl ?_
  refine RL.add rfl rfl rfl (by omega) ?_
  refine RL.assign rfl ?_
  refine RL.nil ?_
  refine X.hyp ⟨rfl, g + 1, by omega, _, (by rw [mapT_skip hs (tickP_f hr)]; exact List.Sublist.refl _), by omega, ⟨rfl, rfl, trivial⟩, rfl⟩
 replace hg : ¬ ((_ : Int) < _) := hg
 refine RL.nil ?_
 refine X.cond_f rfl ?_
 refine X.exit rfl ?_
 refine X.nil ?_
 refine end0 rfl ?_
 exact ⟨rfl, by rw [mapT_all (by omega)]⟩
theorem f_xfree (xb cb cp n : Nat) (junk : List Value) (delay : Int) (vs : List Value) (ss : List Mv) (hlen : vs.length = ss.length) (hx5 : ss.length ≤ 1000) (hn : n = ss.length) (w : World) (hown : ∀ p ∈ RefG xb cb cp junk delay vs ss n, w.heap[p.1]? = some p.2) (hnd : (keys (RefG xb cb cp junk delay vs ss n)).Nodup) : Ctr Try.prog 21 [.pointer (some ⟨xb, 0, none⟩)] w (RefG xb cb cp junk delay vs (ss) n) fun v L => ∃ Ao co Lo, v = .slice Ao (freedP delay ss ss.length).length co ∧ Row 3 1 (.slice Ao (freedP delay ss ss.length).length co) (ints (freedP delay ss ss.length)) Lo ∧ L = Lo ++ RefG xb cb cp junk delay vs (ss.map (freeP delay)) n := by
 subst hn
 refine Ctr.intro (n := 56) Try.func21 rfl Try.ntmps21 (Nat.le_of_ble_eq_true rfl) hown hnd ?_
 refine X.seq ?_
 refine X.region rfl ?_
 refine RL.assign rfl ?_
 refine RL.nil ?_
 refine X.seq ?_
 refine X.region rfl ?_
 refine RL.assign rfl ?_
 refine RL.nil ?_
 refine X.seq ?_
 refine X.seq ?_
 refine X.region rfl ?_
 refine RL.assign rfl ?_
 refine RL.nil ?_
 refine X.block ?_
 refine X.loop (γ := Nat) (fun g ρ L => ∃ Ao : Option Addr, ∃ co : Nat, ∃ Lo : List Ent, (g ≤ ss.length) ∧ (Row 3 1 (.slice Ao (freedP delay ss g).length co) (ints (freedP delay ss g)) Lo) ∧ Has ρ [(0, .pointer (some ⟨xb, 0, none⟩)), (3, .slice Ao (freedP delay ss g).length co), (4, .int .i64 g)] ∧ L = Lo ++ RefG xb cb cp junk delay vs (mapT (freeP delay) g ss) ss.length) (fun g => ss.length - g) (0) ⟨_, (by repeat (first | exact sb0 _ | exact sb1 _ | (rw [List.append_nil]; exact sb0 _) | exact sb2 _ _ | exact sb3 _ _ _ | apply sb4 | apply sb5 | apply sb6)), none, 0, [], Nat.zero_le _, Row.nil, ⟨rfl, rfl, rfl, trivial⟩, rfl⟩ ?_
 rintro g _ _ ⟨Ao, co, Lo, hg0, hro, hρ, rfl⟩
 obtain ⟨base, rfl⟩ := hρ.base
 clear hρ
 refine X.seq ?_
 refine X.seq ?_
 refine X.region rfl ?_
 refine RL.move rfl ?_
 refine RL.move rfl ?_
 refine RL.nilCheck rfl rfl ?_
 refine RL.fieldAddr rfl fd61_0 rfl ?_
 refine RL.loadO rfl sc59 rfl rfl ?_
 refine RL.len rfl sl59 rfl ?_
 refine RL.cmp_s rfl rfl rfl rfl (fun hg => ?_) (fun hg => ?_)
 ·replace hg : (_ : Int) < _ := hg
  obtain ⟨v, hv⟩ : ∃ v, vs[g]? = some v := ⟨_, List.getElem?_eq_getElem (by omega)⟩
  obtain ⟨s, hs⟩ : ∃ s, ss[g]? = some s := ⟨_, List.getElem?_eq_getElem (by omega)⟩
  have hs2 := mapT_get (f := (freeP delay)) hs
  have hfl := freedP_le delay ss g
  refine RL.nil ?_
  refine X.cond_t rfl ?_
  refine X.skip ?_
  refine X.seq ?_
  refine X.block ?_
  refine X.seq ?_
  cases hr : restsP s
  ·refine X.draw (by kernel_rfl) (by kernel_rfl) ?_
   refine RL.move rfl ?_
   refine RL.nilCheck rfl rfl ?_
   refine RL.fieldAddr rfl fd61_0 rfl ?_
   refine RL.loadO rfl sc59 rfl rfl ?_
   refine RL.move rfl ?_
   refine RL.indexAddr rfl sl59 rfl rfl rfl rfl (by omega) ?_
   refine RL.loadOA rfl ag58 rfl (rcells_take hv hs2) (rEl_len _ _) ?_
   refine RL.fnQ (v := .bool false) rfl rfl en24 (fun w hw => (f_isidle v s w).mono fun v L h => (by rw [h, hr] : v = .bool false)) rfl ?_
   refine RL.move rfl ?_
   refine RL.skip rfl ?_
   refine RL.skip rfl ?_
   refine RL.skip rfl ?_
   refine RL.skip rfl ?_
   refine RL.skip rfl ?_
   refine RL.skip rfl ?_
   refine RL.skip rfl ?_
   refine RL.skip rfl ?_
   refine RL.skip rfl ?_
   refine RL.skip rfl ?_
   refine RL.skip rfl ?_
   refine RL.skip rfl ?_
   refine RL.skip rfl ?_
   refine RL.pick_f rfl rfl ?_
   refine RL.nil ?_
   refine X.cond_f rfl ?_
   refine X.skip ?_
   refine X.blk ?_
   refine X.region rfl ?_
   refine RL.move rfl ?_
   refine RL.add rfl rfl rfl (by omega) ?_
   refine RL.assign rfl ?_
   refine RL.nil ?_
   have hlv : leavesP delay s = false := by unfold leavesP; rw [hr]; rfl
   refine X.hyp ⟨rfl, g + 1, by omega, _, (by rw [mapT_skip hs (freeP_f hlv)]; exact List.Sublist.refl _), Ao, co, Lo, by omega, by rw [freedP_succ hs, hlv]; simpa using hro, ⟨rfl, by rw [freedP_succ hs, hlv]; simp; rfl, rfl, trivial⟩, rfl⟩
  refine X.draw (by kernel_rfl) (by kernel_rfl) ?_
  refine RL.move rfl ?_
  refine RL.nilCheck rfl rfl ?_
  refine RL.fieldAddr rfl fd61_0 rfl ?_
  refine RL.loadO rfl sc59 rfl rfl ?_
  refine RL.move rfl ?_
  refine RL.indexAddr rfl sl59 rfl rfl rfl rfl (by omega) ?_
  refine RL.loadOA rfl ag58 rfl (rcells_take hv hs2) (rEl_len _ _) ?_
  refine RL.fnQ (v := .bool true) rfl rfl en24 (fun w hw => (f_isidle v s w).mono fun v L h => (by rw [h, hr] : v = .bool true)) rfl ?_
  refine RL.move rfl ?_
  refine RL.move rfl ?_
  refine RL.nilCheck rfl rfl ?_
  refine RL.fieldAddr rfl fd61_0 rfl ?_
  refine RL.loadO rfl sc59 rfl rfl ?_
  refine RL.move rfl ?_
  refine RL.indexAddr rfl sl59 rfl rfl rfl rfl (by omega) ?_
  refine RL.fieldAddr rfl fd58_3 rfl ?_
  refine RL.loadO rfl sc3 rfl (rcells_get hv hs2 (j := 5) (by decide)) ?_
  refine RL.move rfl ?_
  refine RL.nilCheck rfl rfl ?_
  refine RL.fieldAddr rfl fd61_1 rfl ?_
  refine RL.loadO rfl sc3 rfl rfl ?_
  refine RL.cmp_s rfl rfl rfl rfl (fun hd => ?_) (fun hd => ?_)
  ·replace hd : (_ : Int) ≥ _ := hd
   have hlv : leavesP delay s = true := by unfold leavesP; rw [hr, decide_eq_true hd]; rfl
   refine RL.pick_t rfl rfl ?_
   refine RL.nil ?_
   refine X.cond_t rfl ?_
   refine X.seq ?_
   refine X.region rfl ?_
   refine RL.move rfl ?_
   refine RL.nilCheck rfl rfl ?_
   refine RL.fieldAddr rfl fd61_0 rfl ?_
   refine RL.loadO rfl sc59 rfl rfl ?_
   refine RL.move rfl ?_
   refine RL.indexAddr rfl sl59 rfl rfl rfl rfl (by omega) ?_
   refine RL.fieldAddr rfl fd58_1 rfl ?_
   refine RL.stB rfl rfl sc4.size rfl rfl (by have := (List.getElem?_eq_some_iff.1 hs).1; rw [List.length_append, rcells_len (by rw [mapT_len]; exact hlen), mapT_len]; omega) ?_
   refine RL.nil ?_
   refine X.seq ?_
   refine X.region rfl ?_
   refine RL.move rfl ?_
   refine RL.nilCheck rfl rfl ?_
   refine RL.fieldAddr rfl fd61_0 rfl ?_
   refine RL.loadO rfl sc59 rfl rfl ?_
   refine RL.move rfl ?_
   refine RL.indexAddr rfl sl59 rfl rfl rfl rfl (by omega) ?_
   refine RL.fieldAddr rfl fd58_3 rfl ?_
   refine RL.stI rfl rfl sc3.size rfl rfl (by rw [List.length_set]; exact (by have := (List.getElem?_eq_some_iff.1 hs).1; rw [List.length_append, rcells_len (by rw [mapT_len]; exact hlen), mapT_len]; omega)) ?_
   refine RL.nil ?_
   refine X.region rfl ?_
   refine RL.move rfl ?_
   refine RL.move rfl ?_
   refine RL.bs1I rfl rfl sl38 zt3 rfl ?_
   intro bb hbb
   have hL : ((rcells vs (mapT (freeP delay) g ss) ++ junk).set (0 + g * 6 + 1) (.bool false)).set (0 + g * 6 + 5) (.int .i64 0) = rcells vs (mapT (freeP delay) (g + 1) ss) ++ junk := by
     have hlt := (List.getElem?_eq_some_iff.1 hs2).1
     rw [rcells_set (s' := { s with on := false }) hv hs2 (by decide) rfl, rcells_set (s := { s with on := false }) (s' := { s with on := false, idle := 0 }) hv (by rw [List.getElem?_set_self hlt]) (by decide) rfl, List.set_set, mapT_succ hs, freeP_t hlv]
   rw [hL]
   refine RL.app1I (Lr := Lo) (Lz := RefG xb cb cp junk delay vs (mapT (freeP delay) (g + 1) ss) ss.length) rfl rfl sl38 el_int Try.underlying38 (List.Perm.refl _) rfl rfl hro (by rw [ints_length]; omega) (n := (freedP delay ss g ++ [(g : Int)]).length) (by rw [ints_length]; simp) ?_
   intro A3 cp3 Lr3 hr3
   rw [← ints_snoc] at hr3
   have hF : freedP delay ss (g + 1) = freedP delay ss g ++ [(g : Int)] := by rw [freedP_succ hs, hlv]; rfl
   rw [← hF] at hr3 ⊢
   refine RL.assign rfl ?_
   refine RL.nil ?_
   refine X.blk ?_
   refine X.region rfl ?_
   refine RL.move rfl ?_
   refine RL.add rfl rfl rfl (by omega) ?_
   refine RL.assign rfl ?_
   refine RL.nil ?_
   refine X.hyp ⟨rfl, g + 1, by omega, _, (List.Sublist.append (List.Sublist.refl _) (List.sublist_append_left _ _)), A3, cp3, Lr3, by omega, hr3, ⟨rfl, rfl, rfl, trivial⟩, rfl⟩
  replace hd : ¬ ((_ : Int) ≥ _) := hd
  have hlv : leavesP delay s = false := by unfold leavesP; rw [hr, decide_eq_false hd]; rfl
  refine RL.pick_t rfl rfl ?_
  refine RL.nil ?_
  refine X.cond_f rfl ?_
  refine X.skip ?_
  refine X.blk ?_
  refine X.region rfl ?_
  refine RL.move rfl ?_
  refine RL.add rfl rfl rfl (by omega) ?_
  refine RL.assign rfl ?_
  refine RL.nil ?_
  refine X.hyp ⟨rfl, g + 1, by omega, _, (by rw [mapT_skip hs (freeP_f hlv)]; exact List.Sublist.refl _), Ao, co, Lo, by omega, by rw [freedP_succ hs, hlv]; simpa using hro, ⟨rfl, by rw [freedP_succ hs, hlv]; simp; rfl, rfl, trivial⟩, rfl⟩
 replace hg : ¬ ((_ : Int) < _) := hg
 refine RL.nil ?_
 refine X.cond_f rfl ?_
 refine X.exit rfl ?_
 refine X.seq ?_
 refine X.region rfl ?_
 refine RL.move rfl ?_
 refine RL.assign rfl ?_
 refine RL.nil ?_
 refine X.ret ?_
 refine ret1 rfl ?_
 have e : g = ss.length := by omega
 subst e
 exact ⟨Ao, co, Lo, rfl, hro, by rw [mapT_all (by omega)]⟩
theorem f_xcount (i what : Int) (up : Bool) (xb cb cp n : Nat) (junk : List Value) (delay : Int) (vs : List Value) (ss : List Mv) (hlen : vs.length = ss.length) (hx5 : ss.length ≤ 1000) (hn : n = ss.length) (w : World) (hown : ∀ p ∈ RefG xb cb cp junk delay vs ss n, w.heap[p.1]? = some p.2) (hnd : (keys (RefG xb cb cp junk delay vs ss n)).Nodup) : Ctr Try.prog 22 [.pointer (some ⟨xb, 0, none⟩), .int .i64 i, .int .i64 what, .bool up] w (RefG xb cb cp junk delay vs (ss) n) fun v L => v = .int .i64 (countP ss i what up).1 ∧ L = RefG xb cb cp junk delay vs ((countP ss i what up).2) n := by
 subst hn
 refine Ctr.intro (n := 81) Try.func22 rfl Try.ntmps22 (Nat.le_of_ble_eq_true rfl) hown hnd ?_
 refine X.seq ?_
 refine X.region rfl ?_
 refine RL.assign rfl ?_
 refine RL.nil ?_
 refine X.seq ?_
 refine X.seq ?_
 refine X.region rfl ?_
 refine RL.move rfl ?_
 refine RL.cmp_s rfl rfl rfl rfl (fun h1 => ?_) (fun h1 => ?_)
 ·replace h1 : (_ : Int) < _ := h1
  refine RL.move rfl ?_
  refine RL.skip rfl ?_
  refine RL.skip rfl ?_
  refine RL.skip rfl ?_
  refine RL.skip rfl ?_
  refine RL.skip rfl ?_
  refine RL.skip rfl ?_
  refine RL.skip rfl ?_
  refine RL.pick_t rfl rfl ?_
  refine RL.move rfl ?_
  refine RL.skip rfl ?_
  refine RL.skip rfl ?_
  refine RL.pick_t rfl rfl ?_
  refine RL.move rfl ?_
  refine RL.skip rfl ?_
  refine RL.skip rfl ?_
  refine RL.pick_t rfl rfl ?_
  refine RL.nil ?_
  refine X.cond_t rfl ?_
  refine X.seq ?_
  refine X.region rfl ?_
  refine RL.assign rfl ?_
  refine RL.nil ?_
  refine X.ret ?_
  refine ret1 rfl ?_
  show (_ : Value) = _ ∧ _
  rw [show countP ss i what up = (1, ss) from if_pos (by omega)]; exact ⟨rfl, rfl⟩
 replace h1 : ¬ ((_ : Int) < _) := h1
 refine RL.move rfl ?_
 refine RL.move rfl ?_
 refine RL.move rfl ?_
 refine RL.nilCheck rfl rfl ?_
 refine RL.fieldAddr rfl fd61_0 rfl ?_
 refine RL.loadO rfl sc59 rfl rfl ?_
 refine RL.len rfl sl59 rfl ?_
 refine RL.cmp_s rfl rfl rfl rfl (fun h2 => ?_) (fun h2 => ?_)
 ·replace h2 : (_ : Int) ≥ _ := h2
  refine RL.pick_f rfl rfl ?_
  refine RL.move rfl ?_
  refine RL.skip rfl ?_
  refine RL.skip rfl ?_
  refine RL.pick_t rfl rfl ?_
  refine RL.move rfl ?_
  refine RL.skip rfl ?_
  refine RL.skip rfl ?_
  refine RL.pick_t rfl rfl ?_
  refine RL.nil ?_
  refine X.cond_t rfl ?_
  refine X.seq ?_
  refine X.region rfl ?_
  refine RL.assign rfl ?_
  refine RL.nil ?_
  refine X.ret ?_
  refine ret1 rfl ?_
  show (_ : Value) = _ ∧ _
  rw [show countP ss i what up = (1, ss) from if_pos (by omega)]; exact ⟨rfl, rfl⟩
 replace h2 : ¬ ((_ : Int) ≥ _) := h2
 refine RL.pick_f rfl rfl ?_
 refine RL.move rfl ?_
 refine RL.move rfl ?_
 refine RL.cmp_s rfl rfl rfl rfl (fun h3 => ?_) (fun h3 => ?_)
 ·replace h3 : (_ : Int) < _ := h3
  refine RL.pick_f rfl rfl ?_
  refine RL.move rfl ?_
  refine RL.skip rfl ?_
  refine RL.skip rfl ?_
  refine RL.pick_t rfl rfl ?_
  refine RL.nil ?_
  refine X.cond_t rfl ?_
  refine X.seq ?_
  refine X.region rfl ?_
  refine RL.assign rfl ?_
  refine RL.nil ?_
  refine X.ret ?_
  refine ret1 rfl ?_
  show (_ : Value) = _ ∧ _
  rw [show countP ss i what up = (1, ss) from if_pos (by omega)]; exact ⟨rfl, rfl⟩
 replace h3 : ¬ ((_ : Int) < _) := h3
 refine RL.pick_f rfl rfl ?_
 refine RL.move rfl ?_
 refine RL.move rfl ?_
 refine RL.cmp_s rfl rfl rfl rfl (fun h4 => ?_) (fun h4 => ?_)
 ·replace h4 : (_ : Int) > _ := h4
  refine RL.pick_f rfl rfl ?_
  refine RL.nil ?_
  refine X.cond_t rfl ?_
  refine X.seq ?_
  refine X.region rfl ?_
  refine RL.assign rfl ?_
  refine RL.nil ?_
  refine X.ret ?_
  refine ret1 rfl ?_
  show (_ : Value) = _ ∧ _
  rw [show countP ss i what up = (1, ss) from if_pos (by omega)]; exact ⟨rfl, rfl⟩
 replace h4 : ¬ ((_ : Int) > _) := h4
 obtain ⟨g, rfl⟩ : ∃ g : Nat, i = (g : Int) := ⟨i.toNat, by omega⟩
 obtain ⟨k, rfl⟩ : ∃ k : Nat, what = (k : Int) := ⟨what.toNat, by omega⟩
 have hk : k < 3 := by omega
 obtain ⟨v, hv⟩ : ∃ v, vs[g]? = some v := ⟨_, List.getElem?_eq_getElem (by omega)⟩
 obtain ⟨s, hs⟩ : ∃ s, ss[g]? = some s := ⟨_, List.getElem?_eq_getElem (by omega)⟩
 have hlt := (List.getElem?_eq_some_iff.1 hs).1
 have eo : 0 + g * 6 + 2 + k * 1 = 0 + g * 6 + (2 + k) := by omega
 cases up
 ·refine RL.pick_f rfl rfl ?_
  refine RL.nil ?_
  refine X.cond_f rfl ?_
  refine X.skip ?_
  refine X.seq ?_
  refine X.region rfl ?_
  refine RL.move rfl ?_
  refine RL.nilCheck rfl rfl ?_
  refine RL.fieldAddr rfl fd61_0 rfl ?_
  refine RL.loadO rfl sc59 rfl rfl ?_
  refine RL.move rfl ?_
  refine RL.move rfl ?_
  refine RL.indexAddr rfl sl59 rfl rfl rfl rfl (by omega) ?_
  refine RL.fieldAddr rfl fd58_2 rfl ?_
  refine RL.indexArr (sz := 1) rfl Try.underlying56 sc55.size rfl rfl rfl (by omega) ?_
  refine RL.loadO rfl sc55 rfl (by rw [eo, rcells_get hv hs (by omega)]; exact rEl_c v s hk) ?_
  refine RL.assign rfl ?_
  refine RL.nil ?_
  refine X.seq ?_
  refine X.seq ?_
  refine X.region rfl ?_
  refine RL.move rfl ?_
  refine RL.move rfl ?_
  refine RL.skip rfl ?_
  refine RL.skip rfl ?_
  refine RL.pick_f rfl rfl ?_
  refine RL.move rfl ?_
  refine RL.move rfl ?_
  refine RL.not rfl rfl ?_
  refine RL.move rfl ?_
  refine RL.move rfl ?_
  refine RL.cmp_s rfl rfl rfl rfl (fun he => ?_) (fun he => ?_)
  ·replace he : (_ : Int) = _ := he
   refine RL.pick_t rfl rfl ?_
   refine RL.pick_f rfl rfl ?_
   refine RL.nil ?_
   refine X.cond_t rfl ?_
   refine X.seq ?_
   refine X.region rfl ?_
   refine RL.assign rfl ?_
   refine RL.nil ?_
   refine X.ret ?_
   refine ret1 rfl ?_
   show (_ : Value) = _ ∧ _
   rw [countP_at hs hk, if_pos (.inr ⟨rfl, he⟩)]; exact ⟨rfl, rfl⟩
  replace he : ¬ ((_ : Int) = _) := he
  refine RL.pick_t rfl rfl ?_
  refine RL.pick_f rfl rfl ?_
  refine RL.nil ?_
  refine X.cond_f rfl ?_
  refine X.skip ?_
  refine X.seq ?_
  refine X.seq ?_
  refine X.region rfl ?_
  refine RL.move rfl ?_
  refine RL.nil ?_
  refine X.cond_f rfl ?_
  refine X.region rfl ?_
  refine RL.move rfl ?_
  refine RL.subW rfl rfl rfl ?_
  refine RL.assign rfl ?_
  refine RL.nil ?_
  refine X.seq ?_
  refine X.region rfl ?_
  refine RL.move rfl ?_
  refine RL.nilCheck rfl rfl ?_
  refine RL.fieldAddr rfl fd61_0 rfl ?_
  refine RL.loadO rfl sc59 rfl rfl ?_
  refine RL.move rfl ?_
  refine RL.move rfl ?_
  refine RL.move rfl ?_
  refine RL.indexAddr rfl sl59 rfl rfl rfl rfl (by omega) ?_
  refine RL.fieldAddr rfl fd58_2 rfl ?_
  refine RL.indexArr (sz := 1) rfl Try.underlying56 sc55.size rfl rfl rfl (by omega) ?_
  refine RL.stI rfl rfl sc55.size rfl rfl (by rw [List.length_append, rcells_len hlen]; omega) ?_
  refine RL.nil ?_
  refine X.seq ?_
  refine X.region rfl ?_
  refine RL.move rfl ?_
  refine RL.nilCheck rfl rfl ?_
  refine RL.fieldAddr rfl fd61_0 rfl ?_
  refine RL.loadO rfl sc59 rfl rfl ?_
  refine RL.move rfl ?_
  refine RL.indexAddr rfl sl59 rfl rfl rfl rfl (by omega) ?_
  refine RL.fieldAddr rfl fd58_1 rfl ?_
  refine RL.stB rfl rfl sc4.size rfl rfl (by simp only [List.length_set, List.length_append, rcells_len hlen]; omega) ?_
  refine RL.nil ?_
  refine X.seq ?_
  refine X.region rfl ?_
  refine RL.move rfl ?_
  refine RL.nilCheck rfl rfl ?_
  refine RL.fieldAddr rfl fd61_0 rfl ?_
  refine RL.loadO rfl sc59 rfl rfl ?_
  refine RL.move rfl ?_
  refine RL.indexAddr rfl sl59 rfl rfl rfl rfl (by omega) ?_
  refine RL.fieldAddr rfl fd58_3 rfl ?_
  refine RL.stI rfl rfl sc3.size rfl rfl (by simp only [List.length_set, List.length_append, rcells_len hlen]; omega) ?_
  refine RL.nil ?_
  refine X.seq ?_
  refine X.region rfl ?_
  refine RL.assign rfl ?_
  refine RL.nil ?_
  refine X.ret ?_
  refine ret1 rfl ?_
  show (_ : Value) = _ ∧ _
  rw [countP_at hs hk, if_neg (by rintro (⟨h, h2⟩ | ⟨h, h2⟩) <;> first | exact he h2 | cases h)]
  refine ⟨rfl, ?_⟩
  rw [eo, rcells_set hv hs (by omega) (rEl_putc v s _ hk), rcells_set (s := s.putc k (IntKind.u32.wrap (s.c k - 1))) (s' := { (s.putc k (IntKind.u32.wrap (s.c k - 1))) with on := true }) hv (List.getElem?_set_self hlt) (j := 1) (by decide) rfl, List.set_set, rcells_set (s := { (s.putc k (IntKind.u32.wrap (s.c k - 1))) with on := true }) (s' := { (s.putc k (IntKind.u32.wrap (s.c k - 1))) with on := true, idle := 0 }) hv (List.getElem?_set_self hlt) (j := 5) (by decide) rfl, List.set_set, putc_put]
  rfl
 refine RL.pick_f rfl rfl ?_
 refine RL.nil ?_
 refine X.cond_f rfl ?_
 refine X.skip ?_
 refine X.seq ?_
 refine X.region rfl ?_
 refine RL.move rfl ?_
 refine RL.nilCheck rfl rfl ?_
 refine RL.fieldAddr rfl fd61_0 rfl ?_
 refine RL.loadO rfl sc59 rfl rfl ?_
 refine RL.move rfl ?_
 refine RL.move rfl ?_
 refine RL.indexAddr rfl sl59 rfl rfl rfl rfl (by omega) ?_
 refine RL.fieldAddr rfl fd58_2 rfl ?_
 refine RL.indexArr (sz := 1) rfl Try.underlying56 sc55.size rfl rfl rfl (by omega) ?_
 refine RL.loadO rfl sc55 rfl (by rw [eo, rcells_get hv hs (by omega)]; exact rEl_c v s hk) ?_
 refine RL.assign rfl ?_
 refine RL.nil ?_
 refine X.seq ?_
 refine X.seq ?_
 refine X.region rfl ?_
 refine RL.move rfl ?_
 refine RL.move rfl ?_
 refine RL.move rfl ?_
 refine RL.cmp_s rfl rfl rfl rfl (fun he => ?_) (fun he => ?_)
 ·replace he : (_ : Int) = _ := he
  refine RL.pick_t rfl rfl ?_
  refine RL.move rfl ?_
  refine RL.skip rfl ?_
  refine RL.skip rfl ?_
  refine RL.skip rfl ?_
  refine RL.skip rfl ?_
  refine RL.skip rfl ?_
  refine RL.skip rfl ?_
  refine RL.pick_t rfl rfl ?_
  refine RL.nil ?_
  refine X.cond_t rfl ?_
  refine X.seq ?_
  refine X.region rfl ?_
  refine RL.assign rfl ?_
  refine RL.nil ?_
  refine X.ret ?_
  refine ret1 rfl ?_
  show (_ : Value) = _ ∧ _
  rw [countP_at hs hk, if_pos (.inl ⟨rfl, he⟩)]; exact ⟨rfl, rfl⟩
 replace he : ¬ ((_ : Int) = _) := he
 refine RL.pick_t rfl rfl ?_
 refine RL.move rfl ?_
 refine RL.move rfl ?_
 refine RL.not rfl rfl ?_
 refine RL.move rfl ?_
 refine RL.skip rfl ?_
 refine RL.skip rfl ?_
 refine RL.pick_f rfl rfl ?_
 refine RL.pick_f rfl rfl ?_
 refine RL.nil ?_
 refine X.cond_f rfl ?_
 refine X.skip ?_
 refine X.seq ?_
 refine X.seq ?_
 refine X.region rfl ?_
 refine RL.move rfl ?_
 refine RL.nil ?_
 refine X.cond_t rfl ?_
 refine X.region rfl ?_
 refine RL.move rfl ?_
 refine RL.addW rfl rfl rfl ?_
 refine RL.assign rfl ?_
 refine RL.nil ?_
 refine X.seq ?_
 refine X.region rfl ?_
 refine RL.move rfl ?_
 refine RL.nilCheck rfl rfl ?_
 refine RL.fieldAddr rfl fd61_0 rfl ?_
 refine RL.loadO rfl sc59 rfl rfl ?_
 refine RL.move rfl ?_
 refine RL.move rfl ?_
 refine RL.move rfl ?_
 refine RL.indexAddr rfl sl59 rfl rfl rfl rfl (by omega) ?_
 refine RL.fieldAddr rfl fd58_2 rfl ?_
 refine RL.indexArr (sz := 1) rfl Try.underlying56 sc55.size rfl rfl rfl (by omega) ?_
 refine RL.stI rfl rfl sc55.size rfl rfl (by rw [List.length_append, rcells_len hlen]; omega) ?_
 refine RL.nil ?_
 refine X.seq ?_
 refine X.region rfl ?_
 refine RL.move rfl ?_
 refine RL.nilCheck rfl rfl ?_
 refine RL.fieldAddr rfl fd61_0 rfl ?_
 refine RL.loadO rfl sc59 rfl rfl ?_
 refine RL.move rfl ?_
 refine RL.indexAddr rfl sl59 rfl rfl rfl rfl (by omega) ?_
 refine RL.fieldAddr rfl fd58_1 rfl ?_
 refine RL.stB rfl rfl sc4.size rfl rfl (by simp only [List.length_set, List.length_append, rcells_len hlen]; omega) ?_
 refine RL.nil ?_
 refine X.seq ?_
 refine X.region rfl ?_
 refine RL.move rfl ?_
 refine RL.nilCheck rfl rfl ?_
 refine RL.fieldAddr rfl fd61_0 rfl ?_
 refine RL.loadO rfl sc59 rfl rfl ?_
 refine RL.move rfl ?_
 refine RL.indexAddr rfl sl59 rfl rfl rfl rfl (by omega) ?_
 refine RL.fieldAddr rfl fd58_3 rfl ?_
 refine RL.stI rfl rfl sc3.size rfl rfl (by simp only [List.length_set, List.length_append, rcells_len hlen]; omega) ?_
 refine RL.nil ?_
 refine X.seq ?_
 refine X.region rfl ?_
 refine RL.assign rfl ?_
 refine RL.nil ?_
 refine X.ret ?_
 refine ret1 rfl ?_
 show (_ : Value) = _ ∧ _
 rw [countP_at hs hk, if_neg (by rintro (⟨h, h2⟩ | ⟨h, h2⟩) <;> first | exact he h2 | cases h)]
 refine ⟨rfl, ?_⟩
 rw [eo, rcells_set hv hs (by omega) (rEl_putc v s _ hk), rcells_set (s := s.putc k (IntKind.u32.wrap (s.c k + 1))) (s' := { (s.putc k (IntKind.u32.wrap (s.c k + 1))) with on := true }) hv (List.getElem?_set_self hlt) (j := 1) (by decide) rfl, List.set_set, rcells_set (s := { (s.putc k (IntKind.u32.wrap (s.c k + 1))) with on := true }) (s' := { (s.putc k (IntKind.u32.wrap (s.c k + 1))) with on := true, idle := 0 }) hv (List.getElem?_set_self hlt) (j := 5) (by decide) rfl, List.set_set, putc_put]
 rfl
end Go.Proofs.Ytnebpklmbefmfaa

/- Bytes lent, and looked at behind the call. -/
import Derived.Test.YtdnnnbjmjjdcfaaE2
import Derived.Test.YtdnnnbjmjjdcfaaLent
set_option linter.unusedVariables false
set_option linter.unusedSimpArgs false
namespace Go.Proofs.Ytdnnnbjmjjdcfaa
open Go.RowKit
attribute [local irreducible] X RL W Ctr
theorem f_lent (r : List Int) (hlen : r.length ≤ 20000) (A : Option Addr) (cp : Nat) (w : World) (hrd : Rd w A (gcells r)) :
    Ctr Try.prog 17 [.slice A r.length cp] w [] fun v L => ∃ b cap junk, v = .slice (some ⟨b, 0, none⟩) r.length cap ∧ r.length + 4 ≤ cap ∧ [(b, cel 5 (gcells (lentB r) ++ junk))].Sublist L := by
 obtain ⟨bb, oo, hA0, hc⟩ := hrd
 have hA : 0 < r.length → A = some ⟨bb, oo, none⟩ := fun h => hA0 (by rw [gcells_len]; omega)
 refine Ctr.intro0 (n := 28) Try.func17 rfl Try.ntmps17 (Nat.le_of_ble_eq_true rfl) ?_
 refine X.seq ?_
 refine X.region rfl ?_
 refine RL.assign rfl ?_
 refine RL.nil ?_
 refine X.seq ?_
 refine X.region rfl ?_
 refine RL.move rfl ?_
 refine RL.len rfl sl40 rfl ?_
 refine RL.add rfl rfl rfl (by omega) ?_
 refine RL.makeU8 (n := r.length + 4) rfl rfl sl40 el_u8 rfl rfl (by omega) (by omega) (by omega) ?_
 intro b0 hb0
 refine RL.assign rfl ?_
 refine RL.nil ?_
 refine X.seq ?_
 refine X.seq ?_
 refine X.region rfl ?_
 refine RL.assign rfl ?_
 refine RL.nil ?_
 refine X.block ?_
 refine X.loop (γ := Nat) (fun g ρ L => ∃ A2 : Option Addr, ∃ cp2 : Nat, ∃ Lr : List Ent, (g ≤ r.length) ∧ (Row 5 1 (.slice A2 (g) cp2) (gcells (r.take g)) Lr) ∧ Has ρ [(0, .slice A r.length cp), (3, .slice A2 g cp2), (4, .int .i64 g)] ∧ L = Lr ++ []) (fun g => r.length - g) (0) ⟨_, (by repeat (first | exact List.Sublist.refl _ | exact List.nil_sublist _ | (rw [List.append_nil]; exact List.Sublist.refl _) | exact List.sublist_append_left _ _ | exact (List.sublist_append_left _ _).trans (List.sublist_append_left _ _) | apply List.Sublist.cons_cons | apply List.Sublist.cons | refine List.Sublist.trans ?_ (List.sublist_append_right _ _))), some ⟨b0, 0, none⟩, r.length + 4, [(b0, cel 5 (gcells (List.replicate (r.length + 4) 0)))], Nat.zero_le _, (Row.blk b0 0 (r.length + 4) [] (gcells (List.replicate (r.length + 4) 0)) rfl (by simp [gcells]) (by omega)), ⟨rfl, rfl, rfl, trivial⟩, rfl⟩ ?_
 rintro g _ _ ⟨A2, cp2, Lr, hg0, hr, hρ, rfl⟩
 obtain ⟨base, rfl⟩ := hρ.base
 clear hρ
 refine X.seq ?_
 refine X.seq ?_
 refine X.region rfl ?_
 refine RL.move rfl ?_
 refine RL.move rfl ?_
 refine RL.len rfl sl40 rfl ?_
 refine RL.cmp_s rfl rfl rfl rfl (fun hlt => ?_) (fun hlt => ?_)
 ·replace hlt : (_ : Int) < _ := hlt
  obtain ⟨x, hx⟩ : ∃ x, r[g]? = some x := ⟨_, List.getElem?_eq_getElem (by omega)⟩
  have hx2 : (gcells r)[g]? = some (.int .u8 x) := by simp only [gcells, List.getElem?_map, hx]; rfl
  obtain ⟨hgl, ex⟩ := List.getElem?_eq_some_iff.1 hx
  refine RL.nil ?_
  refine X.cond_t rfl ?_
  refine X.skip ?_
  refine X.seq ?_
  refine X.block ?_
  refine X.region rfl ?_
  refine RL.move rfl ?_
  refine RL.move rfl ?_
  refine RL.move rfl ?_
  refine RL.indexAddr rfl sl40 rfl rfl (hA (by omega)) rfl (by omega) ?_
  refine RL.loadI rfl sc5 rfl (by rw [Nat.mul_one]; exact hc g _ hx2) (by simp) ?_
  refine RL.bs1U rfl rfl sl40 zt5 rfl ?_
  intro bb1 hbb1
  refine RL.appB (Lr := Lr) (Lz := (bb1, cel 5 (gcells ([x]))) :: []) (xs := gcells (r.take g)) (ys := gcells ([x])) (N := g + 1) rfl rfl sl40 el_u8 (by decide) (by decide) Try.underlying40 rfl hr rfl List.perm_middle.symm List.mem_cons_self rfl (gcells_one _) (by omega) rfl ?_
  intro A1 cp1 Lr1 hr1
  rw [← gcells_app] at hr1
  refine RL.drop (L' := Lr1 ++ []) rfl (List.Sublist.append (List.Sublist.refl _) (List.sublist_cons_self _ _)) ?_
  refine RL.assign rfl ?_
  refine RL.nil ?_
  refine X.blk ?_
  refine X.region rfl ?_
  refine RL.move rfl ?_
  refine RL.add rfl rfl rfl (by omega) ?_
  refine RL.assign rfl ?_
  refine RL.nil ?_
  refine X.hyp ⟨rfl, g + 1, by omega, _, (by repeat (first | exact List.Sublist.refl _ | exact List.nil_sublist _ | (rw [List.append_nil]; exact List.Sublist.refl _) | exact List.sublist_append_left _ _ | exact (List.sublist_append_left _ _).trans (List.sublist_append_left _ _) | apply List.Sublist.cons_cons | apply List.Sublist.cons | refine List.Sublist.trans ?_ (List.sublist_append_right _ _))), A1, cp1, Lr1, by omega, (by rw [List.take_succ_eq_append_getElem hgl, ex]; exact hr1), ⟨rfl, rfl, rfl, trivial⟩, rfl⟩
 ·replace hlt : ¬ ((_ : Int) < _) := hlt
  have hgg : g = r.length := by omega
  subst hgg
  rw [List.take_length] at hr
  refine RL.nil ?_
  refine X.cond_f rfl ?_
  refine X.exit rfl ?_
  refine X.seq ?_
  refine X.region rfl ?_
  refine RL.move rfl ?_
  refine RL.bsC (vs := [(0, .int .u8 90), (1, .int .u8 91), (2, .int .u8 92), (3, .int .u8 93)]) (cells := gcells [90, 91, 92, 93]) rfl rfl sl40 (fun w => let ⟨v, a, b⟩ := zt5; ⟨v, a, b w⟩) rfl rfl rfl (by kernel_rfl) ?_
  intro bb6 hbb6
  refine RL.appB (Lr := Lr) (Lz := (bb6, cel 5 (gcells ([90, 91, 92, 93]))) :: []) (xs := gcells (r)) (ys := gcells ([90, 91, 92, 93])) (N := r.length + 4) rfl rfl sl40 el_u8 (by decide) (by decide) Try.underlying40 rfl hr rfl List.perm_middle.symm List.mem_cons_self rfl (gcells_one _) (by omega) rfl ?_
  intro A6 cp6 Lr6 hr6
  rw [← gcells_app] at hr6
  refine RL.drop (L' := Lr6 ++ []) rfl (List.Sublist.append (List.Sublist.refl _) (List.sublist_cons_self _ _)) ?_
  have hc6 := (row_len hr6).2
  obtain ⟨b6, junk, rfl, rfl⟩ := hr6.open (by omega)
  refine RL.move rfl ?_
  refine RL.len rfl sl40 rfl ?_
  refine RL.sliceHi (j := r.length) rfl sl40 rfl rfl rfl (by omega) ?_
  rw [hi_same]
  refine RL.assign rfl ?_
  refine RL.nil ?_
  refine X.ret ?_
  exact ret1 rfl ⟨b6, cp6, junk, rfl, hc6, by simp [lentB]⟩
theorem f_kept (r : List Int) (hlen : r.length ≤ 20000) (A : Option Addr) (cp b cap : Nat) (junk : List Value) (w : World) (hrd : Rd w A (gcells r)) (hcap : r.length + 4 ≤ cap) (hb : w.heap[b]? = some (cel 5 (gcells (lentB r) ++ junk))) :
    Ctr Try.prog 21 [.slice (some ⟨b, 0, none⟩) r.length cap, .slice A r.length cp] w [] fun v _ => v = .bool true := by
 have hrb : Rd w (some ⟨b, 0, none⟩) (gcells r) := ⟨b, 0, fun _ => rfl, fun j v hv => by rw [Nat.zero_add]; exact cell_of hb (lent_pre hv)⟩
 refine Ctr.intro0 (n := 30) Try.func21 rfl Try.ntmps21 (Nat.le_of_ble_eq_true rfl) ?_
 refine X.seq ?_
 refine X.region rfl ?_
 refine RL.assign rfl ?_
 refine RL.nil ?_
 refine X.seq ?_
 refine X.region rfl ?_
 refine RL.move rfl ?_
 refine RL.move rfl ?_
 refine RL.len rfl sl40 rfl ?_
 refine RL.add rfl rfl rfl (by omega) ?_
 refine RL.sliceHi (j := r.length + 4) rfl sl40 rfl rfl rfl (by omega) ?_
 rw [hi_same]
 refine RL.assign rfl ?_
 refine RL.nil ?_
 refine X.seq ?_
 refine X.seq ?_
 refine X.region rfl ?_
 refine RL.assign rfl ?_
 refine RL.nil ?_
 refine X.block ?_
 refine X.loop (γ := Nat) (fun g ρ L => (g ≤ 4) ∧ Has ρ [(0, .slice (some ⟨b, 0, none⟩) r.length cap), (1, .slice A r.length cp), (5, .slice (some ⟨b, 0, none⟩) (r.length + 4) cap), (6, .int .i64 g)] ∧ L = []) (fun g => 4 - g) (0) ⟨_, (by repeat (first | exact List.Sublist.refl _ | exact List.nil_sublist _ | (rw [List.append_nil]; exact List.Sublist.refl _) | exact List.sublist_append_left _ _ | exact (List.sublist_append_left _ _).trans (List.sublist_append_left _ _) | apply List.Sublist.cons_cons | apply List.Sublist.cons | refine List.Sublist.trans ?_ (List.sublist_append_right _ _))), Nat.zero_le _, ⟨rfl, rfl, rfl, rfl, trivial⟩, rfl⟩ ?_
 rintro g _ _ ⟨q1, hρ, rfl⟩
 obtain ⟨base, rfl⟩ := hρ.base
 clear hρ
 refine X.seq ?_
 refine X.seq ?_
 refine X.region rfl ?_
 refine RL.move rfl ?_
 refine RL.cmp_s rfl rfl rfl rfl (fun hlt => ?_) (fun hlt => ?_)
 ·replace hlt : (_ : Int) < _ := hlt
  have hg4 : g < 4 := by omega
  refine RL.nil ?_
  refine X.cond_t rfl ?_
  refine X.skip ?_
  refine X.seq ?_
  refine X.block ?_
  refine X.seq ?_
  refine X.region rfl ?_
  refine RL.move rfl ?_
  refine RL.move rfl ?_
  refine RL.len rfl sl40 rfl ?_
  refine RL.move rfl ?_
  refine RL.add rfl rfl rfl (by omega) ?_
  refine RL.indexAddr rfl sl40 rfl rfl rfl (show ((r.length : Int) + (g : Int)) = ((r.length + g : Nat) : Int) from by omega) (by omega) ?_
  refine RL.loadI rfl sc5 rfl (cell_of hb (lent_at hg4)) (by simp) ?_
  refine RL.move rfl ?_
  refine RL.add rfl rfl rfl (by omega) ?_
  refine RL.convE rfl Try.underlying3 Try.underlying5 rfl (show IntKind.u8.wrap (90 + (g : Int)) = 90 + (g : Int) from u8_id (by omega)) ?_
  refine RL.cmp_f rfl rfl rfl rfl (by show ¬ ((_ : Int) ≠ _); exact fun h => h rfl) ?_
  refine RL.nil ?_
  refine X.cond_f rfl ?_
  refine X.skip ?_
  refine X.blk ?_
  refine X.region rfl ?_
  refine RL.move rfl ?_
  refine RL.add rfl rfl rfl (by omega) ?_
  refine RL.assign rfl ?_
  refine RL.nil ?_
  refine X.hyp ⟨rfl, g + 1, by omega, _, (by repeat (first | exact List.Sublist.refl _ | exact List.nil_sublist _ | (rw [List.append_nil]; exact List.Sublist.refl _) | exact List.sublist_append_left _ _ | exact (List.sublist_append_left _ _).trans (List.sublist_append_left _ _) | apply List.Sublist.cons_cons | apply List.Sublist.cons | refine List.Sublist.trans ?_ (List.sublist_append_right _ _))), by omega, ⟨rfl, rfl, rfl, rfl, trivial⟩, rfl⟩
 ·replace hlt : ¬ ((_ : Int) < _) := hlt
  refine RL.nil ?_
  refine X.cond_f rfl ?_
  refine X.exit rfl ?_
  refine X.seq ?_
  refine X.region rfl ?_
  refine RL.move rfl ?_
  refine RL.move rfl ?_
  refine RL.fnQ (v := .bool true) rfl rfl en15 (fun w1 hw1 => f_samebytes r (by omega) (some ⟨b, 0, none⟩) A cap cp w1 (hrb.stN hw1 (fun b o he => by simp)) (hrd.stN hw1 (fun b o he => by simp))) rfl ?_
  refine RL.assign rfl ?_
  refine RL.nil ?_
  refine X.ret ?_
  exact ret1 rfl rfl
end Go.Proofs.Ytdnnnbjmjjdcfaa

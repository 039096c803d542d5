/- The document's reader: bytes, names. -/
import Derived.Test.YtdnnnbjmjjdcfaaRef
set_option linter.unusedVariables false
set_option linter.unusedSimpArgs false
namespace Go.Proofs.Ytdnnnbjmjjdcfaa
open Go.RowKit
attribute [local irreducible] X RL W Ctr
theorem f_at (r : List Int) (hlen : r.length ≤ 1000000) (hbyt : Byt r) (A : Option Addr) (cp : Nat) (w : World) (hrd : Rd w A (gcells r)) (p : Nat) :
    Ctr Try.prog 36 [.slice A r.length cp, .int .i64 (p : Int)] w [] fun v _ => v = .int .i64 (r.getD p 0) := by
 have hrd0 := hrd
 obtain ⟨bb, oo, hA0, hc⟩ := hrd
 have hA : 0 < r.length → A = some ⟨bb, oo, none⟩ := fun h => hA0 (by rw [gcells_len]; omega)
 refine Ctr.intro0 (n := 14) Try.func36 rfl Try.ntmps36 (Nat.le_of_ble_eq_true rfl) ?_
 refine X.seq ?_
 refine X.region rfl ?_
 refine RL.assign rfl ?_
 refine RL.nil ?_
 refine X.seq ?_
 refine X.seq ?_
 refine X.region rfl ?_
 refine RL.move rfl ?_
 refine RL.move rfl ?_
 refine RL.len rfl sl40 rfl ?_
 refine RL.cmp_s rfl rfl rfl rfl (fun h0 => ?_) (fun h0 => ?_)
 ·replace h0 : (_ : Int) < _ := h0
  obtain ⟨x, hx⟩ : ∃ x, r[p]? = some x := ⟨_, List.getElem?_eq_getElem (by omega)⟩
  have hx2 : (gcells r)[p]? = some (.int .u8 x) := by simp only [gcells, List.getElem?_map, hx]; rfl
  have hb := hbyt x (List.mem_of_getElem? hx)
  refine RL.nil ?_
  refine X.cond_t rfl ?_
  refine X.seq ?_
  refine X.region rfl ?_
  refine RL.move rfl ?_
  refine RL.move rfl ?_
  refine RL.indexAddr rfl sl40 rfl rfl (hA (by omega)) rfl (by omega) ?_
  refine RL.loadI rfl sc5 rfl (by rw [Nat.mul_one]; exact hc p _ hx2) (by simp) ?_
  refine RL.convE rfl Try.underlying5 Try.underlying3 rfl (wrap_i64 (by omega)) ?_
  refine RL.assign rfl ?_
  refine RL.nil ?_
  refine X.ret ?_
  refine ret1 rfl ?_
  rw [List.getD_eq_getElem?_getD, hx]; rfl
 ·replace h0 : ¬ ((_ : Int) < _) := h0
  refine RL.nil ?_
  refine X.cond_f rfl ?_
  refine X.skip ?_
  refine X.seq ?_
  refine X.region rfl ?_
  refine RL.assign rfl ?_
  refine RL.nil ?_
  refine X.ret ?_
  refine ret1 rfl ?_
  rw [List.getD_eq_getElem?_getD, List.getElem?_eq_none (by omega)]; rfl
theorem f_guid (r : List Int) (hlen : r.length ≤ 1000000) (hbyt : Byt r) (A : Option Addr) (cp : Nat) (w : World) (hrd : Rd w A (gcells r)) (p : Nat) (hp : p ≤ 1000000000) :
    Ctr Try.prog 37 [.slice A r.length cp, .int .i64 (p : Int)] w [] fun v _ => v = .agg (gcells (rId r p)).toArray := by
 refine Ctr.intro0 (n := 20) Try.func37 rfl Try.ntmps37 (Nat.le_of_ble_eq_true rfl) ?_
 refine X.seq ?_
 refine X.region rfl ?_
 refine RL.alloc rfl rfl zt34 ?_
 intro b4 hb4
 dsimp only at hb4
 refine RL.nil ?_
 refine X.seq ?_
 refine X.region rfl ?_
 refine RL.alloc rfl rfl zt34 ?_
 intro b5 hb5
 dsimp only at hb5
 refine RL.nil ?_
 refine X.seq ?_
 refine X.seq ?_
 refine X.region rfl ?_
 refine RL.assign rfl ?_
 refine RL.nil ?_
 refine X.block ?_
 refine X.loop (γ := Nat) (fun g ρ L => (g ≤ 16) ∧ Has ρ [(0, .slice A r.length cp), (1, .int .i64 (p : Int)), (4, .pointer (some ⟨b4, 0, none⟩)), (5, .pointer (some ⟨b5, 0, none⟩)), (6, .int .i64 g)] ∧ L = [(b5, cel 34 (gcells (((List.range g).map fun j => u8 (r.getD (p + j) 0)) ++ List.replicate (16 - g) 0))), (b4, cel 34 (gcells (List.replicate 16 0)))]) (fun g => 16 - g) (0) ⟨_, (by repeat (first | exact List.Sublist.refl _ | exact List.nil_sublist _ | (rw [List.append_nil]; exact List.Sublist.refl _) | exact List.sublist_append_left _ _ | exact (List.sublist_append_left _ _).trans (List.sublist_append_left _ _) | apply List.Sublist.cons_cons | apply List.Sublist.cons | refine List.Sublist.trans ?_ (List.sublist_append_right _ _))), Nat.zero_le _, ⟨rfl, rfl, rfl, rfl, rfl, trivial⟩, rfl⟩ ?_
 rintro g _ _ ⟨q1, hρ, rfl⟩
 obtain ⟨base, rfl⟩ := hρ.base
 clear hρ
 refine X.seq ?_
 refine X.seq ?_
 refine X.region rfl ?_
 refine RL.move rfl ?_
 refine RL.cmp_s rfl rfl rfl rfl (fun hlt => ?_) (fun hlt => ?_)
 ·replace hlt : (_ : Int) < _ := hlt
  have hxl : ((List.range g).map fun j => u8 (r.getD (p + j) 0)).length = g := by rw [List.length_map, List.length_range]
  refine RL.nil ?_
  refine X.cond_t rfl ?_
  refine X.skip ?_
  refine X.seq ?_
  refine X.block ?_
  refine X.region rfl ?_
  refine RL.move rfl ?_
  refine RL.move rfl ?_
  refine RL.move rfl ?_
  refine RL.move rfl ?_
  refine RL.add rfl rfl rfl (by omega) ?_
  refine RL.fnQ (v := .int .i64 (r.getD (p + g) 0)) rfl rfl en36 (fun w1 hw1 => f_at r hlen hbyt A cp w1 (hrd.stN hw1 (fun b o he => by simp)) (p + g)) rfl ?_
  refine RL.conv rfl Try.underlying3 Try.underlying5 rfl ?_
  refine RL.indexArr rfl Try.underlying34 sc5.size rfl rfl (j := g) rfl (by omega) ?_
  refine RL.stI rfl rfl sc5.size rfl rfl (by rw [gcells_len, List.length_append, hxl, List.length_replicate]; omega) ?_
  refine RL.nil ?_
  refine X.blk ?_
  refine X.region rfl ?_
  refine RL.move rfl ?_
  refine RL.add rfl rfl rfl (by omega) ?_
  refine RL.assign rfl ?_
  refine RL.nil ?_
  refine X.hyp ⟨rfl, g + 1, by omega, _, (by have h5 := set_snoc (v := u8 (r.getD (p + g) 0)) hxl (by omega); rw [List.range_succ, List.map_append]; exact List.Sublist.trans (List.Sublist.refl [(b5, cel 34 (gcells (((List.range g).map fun j => u8 (r.getD (p + j) 0)) ++ [u8 (r.getD (p + g) 0)] ++ List.replicate (16 - (g + 1)) 0))), (b4, cel 34 (gcells (List.replicate 16 0)))]) (by rw [← h5]; exact List.Sublist.refl _)), by omega, ⟨rfl, rfl, rfl, rfl, rfl, trivial⟩, rfl⟩
 ·replace hlt : ¬ ((_ : Int) < _) := hlt
  have hgg : g = 16 := by omega
  subst hgg
  refine RL.nil ?_
  refine X.cond_f rfl ?_
  refine X.exit rfl ?_
  refine X.seq ?_
  refine X.region rfl ?_
  refine RL.loadOA rfl ag34 rfl (take_all (by simp [gcells])) (by simp [gcells]) ?_
  refine RL.stA rfl rfl ag34.size rfl rfl (by simp [gcells]) rfl (gcells_one _) ?_
  refine RL.nil ?_
  refine X.ret ?_
  refine retcA1 rfl ag34 rfl (by simp [gcells]) ?_
  show (_ : Value) = _
  simp [rId]
end Go.Proofs.Ytdnnnbjmjjdcfaa

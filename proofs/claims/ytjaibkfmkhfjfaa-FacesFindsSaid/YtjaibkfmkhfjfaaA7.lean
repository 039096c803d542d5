/- All faces that are made of one of a name: as the document reckons it. -/
import Derived.Test.YtjaibkfmkhfjfaaA6
set_option linter.unusedVariables false
set_option linter.unusedSimpArgs false
namespace Go.Proofs.Ytjaibkfmkhfjfaa
open Go.RowKit
attribute [local irreducible] X RL W Ctr
theorem f_runder (fs : List Face) (hok : ∀ f ∈ fs, FaceOk f) (hlen : fs.length ≤ 60) (A : Option Addr) (c : Nat) (w : World) (hrd : Rd w A (fcells fs)) (id : List Int) (hid : id.length = 16) :
    Ctr Try.prog 24 [.slice A fs.length c, .agg (gcells id).toArray] w [] fun v L => SRow v (underN fs id fs.length) L := by
  have hrd1 := hrd
  obtain ⟨bb, oo, hA0, hc⟩ := hrd
  have hA : 0 < fs.length → A = some ⟨bb, oo, none⟩ := fun h => hA0 (by rw [fcells_len hok]; omega)
  have hlen2 : fs.length ≤ 1000 := by omega
  refine Ctr.intro0 (n := 44) Try.func24 rfl Try.ntmps24 (Nat.le_of_ble_eq_true rfl) ?_
  refine X.seq ?_
  refine X.region rfl ?_
  refine RL.boxA rfl rfl rfl ?_
  intro k3 hk3
  dsimp only at hk3
  refine RL.assign rfl ?_
  refine RL.nil ?_
  refine X.seq ?_
  refine X.region rfl ?_
  refine RL.assign rfl ?_
  refine RL.nil ?_
  refine X.seq ?_
  refine X.seq ?_
  refine X.region rfl ?_
  refine RL.assign rfl ?_
  refine RL.nil ?_
  refine X.block ?_
  refine X.loop (γ := Nat) (fun g ρ L => ∃ A2 : Option Addr, ∃ cp : Nat, ∃ Lr : List Ent, (Row 3 1 (.slice A2 (underN fs id g).length cp) (ints (underN fs id g)) Lr) ∧ (g ≤ fs.length) ∧ Has ρ [(0, .slice A fs.length c), (3, .pointer (some ⟨k3, 0, none⟩)), (5, .slice A2 (underN fs id g).length cp), (6, .int .i64 g)] ∧ L = Lr ++ [(k3, cel 28 (gcells id))]) (fun g => fs.length - g) (0) ⟨_, (by repeat (first | exact List.Sublist.refl _ | exact List.nil_sublist _ | (rw [List.append_nil]; exact List.Sublist.refl _) | exact List.sublist_append_left _ _ | exact (List.sublist_append_left _ _).trans (List.sublist_append_left _ _) | apply List.Sublist.cons_cons | apply List.Sublist.cons | refine List.Sublist.trans ?_ (List.sublist_append_right _ _))), none, 0, [], Row.nil, Nat.zero_le _, ⟨rfl, rfl, rfl, rfl, trivial⟩, rfl⟩ ?_
  rintro g _ _ ⟨A2, cp, Lr, hrow, hg, hρ, rfl⟩
  obtain ⟨base, rfl⟩ := hρ.base
  clear hρ
  refine X.seq ?_
  refine X.seq ?_
  refine X.region rfl ?_
  refine RL.move rfl ?_
  refine RL.move rfl ?_
  refine RL.len rfl sl22 rfl ?_
  refine RL.cmp_s rfl rfl rfl rfl (fun h => ?_) (fun h => ?_)
  · replace h : (_ : Int) < _ := h
    have hll := lineP_len fs (g : Int)
    have hul := underN_len fs id g
    refine RL.nil ?_
    refine X.cond_t rfl ?_
    refine X.skip ?_
    refine X.seq ?_
    refine X.block ?_
    refine X.seq ?_
    refine X.region rfl ?_
    refine RL.move rfl ?_
    refine RL.move rfl ?_
    refine RL.fn0 rfl rfl rfl en13 (fun w hw => (f_rline fs hok hlen2 A c w (hrd1.st0 hw) (g : Int))) rfl ?_
    rintro _ _ ⟨L1, L2, rfl, A3, cp3, rfl, hrow3⟩
    refine RL.drop rfl ((List.sublist_append_left _ _).append (List.Sublist.refl _)) ?_
    refine RL.assign rfl ?_
    refine RL.nil ?_
    refine X.seq ?_
    refine X.region rfl ?_
    refine RL.assign rfl ?_
    refine RL.nil ?_
    refine X.seq ?_
    refine X.seq ?_
    refine X.region rfl ?_
    refine RL.assign rfl ?_
    refine RL.nil ?_
    refine X.block ?_
    refine X.loop (γ := Nat) (fun k ρ L => ∃ found : Bool, (k ≤ (lineP fs (g : Int)).length) ∧ (found = ((lineP fs (g : Int)).take k).any (idAt fs id)) ∧ Has ρ [(0, .slice A fs.length c), (3, .pointer (some ⟨k3, 0, none⟩)), (5, .slice A2 (underN fs id g).length cp), (6, .int .i64 g), (7, .slice A3 (lineP fs (g : Int)).length cp3), (8, .bool found), (9, .int .i64 k)] ∧ L = L1 ++ (Lr ++ [(k3, cel 28 (gcells id))])) (fun k => (lineP fs (g : Int)).length - k) (0) ⟨_, (by repeat (first | exact List.Sublist.refl _ | exact List.nil_sublist _ | (rw [List.append_nil]; exact List.Sublist.refl _) | exact List.sublist_append_left _ _ | exact (List.sublist_append_left _ _).trans (List.sublist_append_left _ _) | apply List.Sublist.cons_cons | apply List.Sublist.cons | refine List.Sublist.trans ?_ (List.sublist_append_right _ _))), false, Nat.zero_le _, rfl, ⟨rfl, rfl, rfl, rfl, rfl, rfl, rfl, trivial⟩, rfl⟩ ?_
    rintro k _ _ ⟨found, hk, hf, hρ, rfl⟩
    obtain ⟨base, rfl⟩ := hρ.base
    clear hρ
    refine X.seq ?_
    refine X.seq ?_
    refine X.region rfl ?_
    refine RL.move rfl ?_
    refine RL.move rfl ?_
    refine RL.len rfl sl32 rfl ?_
    refine RL.cmp_s rfl rfl rfl rfl (fun h2 => ?_) (fun h2 => ?_)
    · replace h2 : (_ : Int) < _ := h2
      obtain ⟨b, junk, rfl, rfl⟩ := hrow3.open (by omega)
      obtain ⟨x, hx⟩ : ∃ x, (lineP fs (g : Int))[k]? = some x := ⟨_, List.getElem?_eq_getElem (by omega)⟩
      have hxm := lineP_mem (List.mem_of_getElem? hx)
      obtain ⟨f, hff⟩ : ∃ f, fs[x.toNat]? = some f := ⟨_, List.getElem?_eq_getElem (by omega)⟩
      have hfo := hok f (List.mem_of_getElem? hff)
      have htk : ((lineP fs (g : Int)).take (k + 1)).any (idAt fs id) = (((lineP fs (g : Int)).take k).any (idAt fs id) || idAt fs id x) := by
        rw [List.take_add_one, hx]; simp
      rw [idAt_of hff] at htk
      rcases Bool.eq_false_or_eq_true found with hb | hb <;> subst hb
      · refine RL.nil ?_
        refine X.cond_t rfl ?_
        refine X.skip ?_
        refine X.seq ?_
        refine X.block ?_
        refine X.draw (by kernel_rfl) (by kernel_rfl) ?_
        refine RL.move rfl ?_
        refine RL.move rfl ?_
        refine RL.skip rfl ?_
        refine RL.skip rfl ?_
        refine RL.skip rfl ?_
        refine RL.skip rfl ?_
        refine RL.skip rfl ?_
        refine RL.skip rfl ?_
        refine RL.skip rfl ?_
        refine RL.skip rfl ?_
        refine RL.skip rfl ?_
        refine RL.skip rfl ?_
        refine RL.pick_t rfl rfl ?_
        refine RL.assign rfl ?_
        refine RL.nil ?_
        refine X.blk ?_
        refine X.region rfl ?_
        refine RL.move rfl ?_
        refine RL.add rfl rfl rfl (by omega) ?_
        refine RL.assign rfl ?_
        refine RL.nil ?_
        refine X.hyp ⟨rfl, k + 1, by omega, _, (by repeat (first | exact List.Sublist.refl _ | exact List.nil_sublist _ | (rw [List.append_nil]; exact List.Sublist.refl _) | exact List.sublist_append_left _ _ | exact (List.sublist_append_left _ _).trans (List.sublist_append_left _ _) | apply List.Sublist.cons_cons | apply List.Sublist.cons | refine List.Sublist.trans ?_ (List.sublist_append_right _ _))), true, by omega, by rw [htk, ← hf]; rfl, ⟨rfl, rfl, rfl, rfl, rfl, rfl, rfl, trivial⟩, rfl⟩
      · refine RL.nil ?_
        refine X.cond_t rfl ?_
        refine X.skip ?_
        refine X.seq ?_
        refine X.block ?_
        refine X.draw (by kernel_rfl) (by kernel_rfl) ?_
        refine RL.move rfl ?_
        refine RL.move rfl ?_
        refine RL.move rfl ?_
        refine RL.move rfl ?_
        refine RL.move rfl ?_
        refine RL.indexAddr rfl sl32 rfl rfl rfl rfl (by omega) ?_
        refine RL.loadO rfl sc3 rfl (ints_app_get hx) ?_
        refine RL.indexAddr rfl sl22 rfl rfl (hA (by omega)) (Int.toNat_of_nonneg hxm.1).symm (by omega) ?_
        refine RL.fieldAddr rfl fd30_0 rfl ?_
        refine RL.loadIA rfl ag28 rfl (face_id_at hc hok hff) (by simp) (gcells_length hfo) ?_
        refine RL.loadOA rfl ag28 rfl (take_all (gcells_length hid)) (gcells_length hid) ?_
        refine RL.eqA rfl eqg_guid rfl rfl (eq_guid hfo hid) (fun hh => ?_) (fun hh => ?_)
        · skip
          refine RL.pick_f rfl rfl ?_
          refine RL.assign rfl ?_
          refine RL.nil ?_
          refine X.blk ?_
          refine X.region rfl ?_
          refine RL.move rfl ?_
          refine RL.add rfl rfl rfl (by omega) ?_
          refine RL.assign rfl ?_
          refine RL.nil ?_
          refine X.hyp ⟨rfl, k + 1, by omega, _, (by repeat (first | exact List.Sublist.refl _ | exact List.nil_sublist _ | (rw [List.append_nil]; exact List.Sublist.refl _) | exact List.sublist_append_left _ _ | exact (List.sublist_append_left _ _).trans (List.sublist_append_left _ _) | apply List.Sublist.cons_cons | apply List.Sublist.cons | refine List.Sublist.trans ?_ (List.sublist_append_right _ _))), true, by omega, by rw [htk, ← hf, decide_eq_true hh]; rfl, ⟨rfl, rfl, rfl, rfl, rfl, rfl, rfl, trivial⟩, rfl⟩
        · skip
          refine RL.pick_f rfl rfl ?_
          refine RL.assign rfl ?_
          refine RL.nil ?_
          refine X.blk ?_
          refine X.region rfl ?_
          refine RL.move rfl ?_
          refine RL.add rfl rfl rfl (by omega) ?_
          refine RL.assign rfl ?_
          refine RL.nil ?_
          refine X.hyp ⟨rfl, k + 1, by omega, _, (by repeat (first | exact List.Sublist.refl _ | exact List.nil_sublist _ | (rw [List.append_nil]; exact List.Sublist.refl _) | exact List.sublist_append_left _ _ | exact (List.sublist_append_left _ _).trans (List.sublist_append_left _ _) | apply List.Sublist.cons_cons | apply List.Sublist.cons | refine List.Sublist.trans ?_ (List.sublist_append_right _ _))), false, by omega, by rw [htk, ← hf, decide_eq_false hh]; rfl, ⟨rfl, rfl, rfl, rfl, rfl, rfl, rfl, trivial⟩, rfl⟩
    · replace h2 : ¬ ((_ : Int) < _) := h2
      have hf2 : found = hitP fs id g := by rw [hf, List.take_of_length_le (by omega)]; rfl
      refine RL.nil ?_
      refine X.cond_f rfl ?_
      refine X.exit rfl ?_
      refine X.seq ?_
      refine X.region rfl ?_
      refine RL.move rfl ?_
      refine RL.nil ?_
      refine X.cond_b rfl (fun hh => ?_) (fun hh => ?_)
      · have hun : underN fs id (g + 1) = underN fs id g ++ [(g : Int)] := by rw [underN_succ, if_pos (by rw [← hf2]; exact hh)]
        refine X.region rfl ?_
        refine RL.move rfl ?_
        refine RL.move rfl ?_
        refine RL.bs1I rfl rfl sl32 zt3 rfl ?_
        intro bb3 hbb3
        refine RL.app1I (Lz := L1 ++ [(k3, cel 28 (gcells id))]) rfl rfl sl32 el_int Try.underlying32 (by classical exact List.perm_iff_count.2 (fun z => by simp only [List.count_append, List.count_cons, List.count_nil, List.cons_append, List.nil_append, List.set_cons_zero, List.set_cons_succ]; omega)) rfl rfl hrow (by rw [ints_length]; omega) (n := (underN fs id g ++ [(g : Int)]).length) (by simp [ints_length]) ?_
        intro A3 cp3 Lr3 hr3
        refine RL.assign rfl ?_
        refine RL.nil ?_
        refine X.blk ?_
        refine X.region rfl ?_
        refine RL.move rfl ?_
        refine RL.add rfl rfl rfl (by omega) ?_
        refine RL.assign rfl ?_
        refine RL.nil ?_
        refine X.hyp ⟨rfl, g + 1, by omega, Lr3 ++ [(k3, cel 28 (gcells id))], (List.Sublist.append (List.Sublist.refl _) ((List.sublist_append_right L1 _).trans (List.sublist_append_left _ _))), A3, cp3, Lr3, ?_, by omega, ?_, rfl⟩
        · rw [hun]; exact hr3.irow
        · rw [hun]; exact ⟨rfl, rfl, rfl, rfl, trivial⟩
      · have hun : underN fs id (g + 1) = underN fs id g := by rw [underN_succ, if_neg (by rw [← hf2]; rw [hh]; simp), List.append_nil]
        refine X.skip ?_
        refine X.blk ?_
        refine X.region rfl ?_
        refine RL.move rfl ?_
        refine RL.add rfl rfl rfl (by omega) ?_
        refine RL.assign rfl ?_
        refine RL.nil ?_
        refine X.hyp ⟨rfl, g + 1, by omega, Lr ++ [(k3, cel 28 (gcells id))], List.sublist_append_right _ _, A2, cp, Lr, ?_, by omega, ?_, rfl⟩
        · rw [hun]; exact hrow
        · rw [hun]; exact ⟨rfl, rfl, rfl, rfl, trivial⟩
  · replace h : ¬ ((_ : Int) < _) := h
    obtain rfl : g = fs.length := by omega
    refine RL.nil ?_
    refine X.cond_f rfl ?_
    refine X.exit rfl ?_
    refine X.seq ?_
    refine X.region rfl ?_
    refine RL.move rfl ?_
    refine RL.assign rfl ?_
    refine RL.nil ?_
    refine X.ret ?_
    refine ret1 rfl ?_
    exact ⟨Lr, List.sublist_append_left _ _, _, _, rfl, hrow⟩
end Go.Proofs.Ytjaibkfmkhfjfaa

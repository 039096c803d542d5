/- The heights: as the document reckons them. -/
import Derived.Test.YtdnnnbjmjjdcfaaA2
set_option linter.unusedVariables false
set_option linter.unusedSimpArgs false
namespace Go.Proofs.Ytdnnnbjmjjdcfaa
open Go.RowKit
attribute [local irreducible] X RL W Ctr
set_option maxHeartbeats 1000000 in
theorem f_height (l : List Ins) (hlen : l.length ≤ 1000) (A : Option Addr) (c : Nat) (w : World) (hrd : Rd w A (icells l)) (s : Int) :
    Ctr Try.prog 32 [.slice A l.length c, .int .i64 s] w [] fun v L => HRes l s v L := by
 have hrd1 := hrd
 obtain ⟨bb, oo, hA0, hc⟩ := hrd
 have hA : 0 < l.length → A = some ⟨bb, oo, none⟩ := fun h => hA0 (by rw [ecells_len Ins.len]; omega)
 refine Ctr.intro0 (n := 156) Try.func32 rfl Try.ntmps32 (Nat.le_of_ble_eq_true rfl) ?_
 refine X.seq ?_
 refine X.region rfl ?_
 refine RL.assign rfl ?_
 refine RL.assign rfl ?_
 refine RL.assign rfl ?_
 refine RL.nil ?_
 refine X.seq ?_
 refine X.seq ?_
 refine X.region rfl ?_
 refine RL.move rfl ?_
 refine RL.len rfl sl56 rfl ?_
 refine RL.cmp_s rfl rfl rfl rfl (fun h => ?_) (fun h => ?_)
 ·replace h : (_ : Int) = _ := h
  refine RL.move rfl ?_
  refine RL.skip rfl ?_
  refine RL.skip rfl ?_
  refine RL.skip rfl ?_
  refine RL.pick_t rfl rfl ?_
  refine RL.nil ?_
  refine X.cond_t rfl ?_
  refine X.seq ?_
  refine X.region rfl ?_
  refine RL.assign rfl ?_
  refine RL.assign rfl ?_
  refine RL.assign rfl ?_
  refine RL.nil ?_
  refine X.ret ?_
  refine ret3 rfl ?_
  show HRes _ _ _ _
  exact HRes.mk Row.nil rfl (List.nil_sublist _) (heightP_len (by omega))
 replace h : ¬ ((_ : Int) = _) := h
 refine RL.move rfl ?_
 refine RL.move rfl ?_
 refine RL.len rfl sl56 rfl ?_
 refine RL.cmp_s rfl rfl rfl rfl (fun h2 => ?_) (fun h2 => ?_)
 ·replace h2 : (_ : Int) > _ := h2
  refine RL.pick_f rfl rfl ?_
  refine RL.nil ?_
  refine X.cond_t rfl ?_
  refine X.seq ?_
  refine X.region rfl ?_
  refine RL.assign rfl ?_
  refine RL.assign rfl ?_
  refine RL.assign rfl ?_
  refine RL.nil ?_
  refine X.ret ?_
  refine ret3 rfl ?_
  show HRes _ _ _ _
  exact HRes.mk Row.nil rfl (List.nil_sublist _) (heightP_len (by omega))
 replace h2 : ¬ ((_ : Int) > _) := h2
 have hl : ¬ (l.length < 1 ∨ 32 < l.length) := by omega
 refine RL.pick_f rfl rfl ?_
 refine RL.nil ?_
 refine X.cond_f rfl ?_
 refine X.skip ?_
 refine X.seq ?_
 refine X.region rfl ?_
 refine RL.assign rfl ?_
 refine RL.nil ?_
 refine X.seq ?_
 refine X.seq ?_
 refine X.region rfl ?_
 refine RL.assign rfl ?_
 refine RL.nil ?_
 refine X.block ?_
 refine X.loop (γ := Nat) (fun g ρ L => ∃ A2 : Option Addr, ∃ cp : Nat, ∃ Lr : List Ent, (Row 3 1 (.slice A2 (hts l s g).length cp) (ints (hts l s g)) Lr) ∧ (g ≤ l.length) ∧ ((hts l s g).length = g) ∧ Has ρ [(0, .slice A l.length c), (1, .int .i64 s), (7, .slice A2 (hts l s g).length cp), (8, .int .i64 g)] ∧ L = Lr) (fun g => l.length - g) (0) ⟨_, (by repeat (first | exact List.Sublist.refl _ | exact List.nil_sublist _ | (rw [List.append_nil]; exact List.Sublist.refl _) | exact List.sublist_append_left _ _ | exact (List.sublist_append_left _ _).trans (List.sublist_append_left _ _) | apply List.Sublist.cons_cons | apply List.Sublist.cons | refine List.Sublist.trans ?_ (List.sublist_append_right _ _))), none, 0, [], Row.nil, Nat.zero_le _, rfl, ⟨rfl, rfl, rfl, rfl, trivial⟩, rfl⟩ ?_
 rintro g _ _ ⟨A2, cp, Lr, hrow, hgl, hg, hρ, rfl⟩
 obtain ⟨base, rfl⟩ := hρ.base
 clear hρ
 rename_i Lr
 refine X.seq ?_
 refine X.seq ?_
 refine X.region rfl ?_
 refine RL.move rfl ?_
 refine RL.move rfl ?_
 refine RL.len rfl sl56 rfl ?_
 refine RL.cmp_s rfl rfl rfl rfl (fun h3 => ?_) (fun h3 => ?_)
 ·replace h3 : (_ : Int) < _ := h3
  obtain ⟨x, hx⟩ : ∃ x, l[g]? = some x := ⟨_, List.getElem?_eq_getElem (by omega)⟩
  refine RL.nil ?_
  refine X.cond_t rfl ?_
  refine X.skip ?_
  refine X.seq ?_
  refine X.block ?_
  refine X.seq ?_
  refine X.region rfl ?_
  refine RL.assign rfl ?_
  refine RL.nil ?_
  refine X.seq ?_
  refine X.seq ?_
  refine X.region rfl ?_
  refine RL.move rfl ?_
  refine RL.cmp_s rfl rfl rfl rfl (fun h4 => ?_) (fun h4 => ?_)
  ·replace h4 : (_ : Int) = _ := h4
   refine RL.nil ?_
   refine X.cond_t rfl ?_
   refine X.region rfl ?_
   refine RL.assign rfl ?_
   refine RL.nil ?_
   refine X.seq ?_
   refine X.seq ?_
   refine X.region rfl ?_
   refine RL.assign rfl ?_
   refine RL.nil ?_
   refine X.block ?_
   refine X.loop (γ := Nat) (fun k ρ L => k ≤ g ∧ 0 ≤ markN l (hts l s g) k g ∧ Has ρ [(0, .slice A l.length c), (1, .int .i64 s), (7, .slice A2 (hts l s g).length cp), (8, .int .i64 g), (9, .int .i64 (markN l (hts l s g) k g - 1)), (10, .int .i64 k)] ∧ L = Lr) (fun k => g - k) 0 ⟨_, List.Sublist.refl _, Nat.zero_le _, by simp only [markN]; split <;> omega, ⟨rfl, rfl, rfl, rfl, congrArg (Value.int .i64) (show (0 : Int) = markN l (hts l s g) 0 g - 1 by simp [markN, show g = 0 by omega]), rfl, trivial⟩, rfl⟩ ?_
   rintro k _ Lr ⟨hk, hm, hρ, rfl⟩
   obtain ⟨base, rfl⟩ := hρ.base
   clear hρ
   refine X.seq ?_
   refine X.seq ?_
   refine X.region rfl ?_
   refine RL.move rfl ?_
   refine RL.move rfl ?_
   refine RL.cmp_s rfl rfl rfl rfl (fun h5 => ?_) (fun h5 => ?_)
   ·replace h5 : (_ : Int) < _ := h5
    obtain ⟨y, hy⟩ : ∃ y, l[k]? = some y := ⟨_, List.getElem?_eq_getElem (by omega)⟩
    obtain ⟨hv, hh⟩ : ∃ hv, (hts l s g)[k]? = some hv := ⟨_, List.getElem?_eq_getElem (by omega)⟩
    have hlr := left_range hh hy
    have hlf : leftP y hv = hv - takeP y.op + layP y.op := rfl
    have htk := takeP_range y.op
    have hly := layP_range y.op
    have hmr := markN_range (l := l) (s := s) (m := g) k g
    have hms := markN_step (t := g) hy hh
    rcases hgo : goesP y k g with _ | _
    ·rw [hgo, if_neg (by simp)] at hms
     refine RL.nil ?_
     refine X.cond_t rfl ?_
     refine X.skip ?_
     refine X.seq ?_
     refine X.block ?_
     refine X.seq ?_
     refine X.seq ?_
     refine X.region rfl ?_
     refine RL.move rfl ?_
     refine RL.move rfl ?_
     refine RL.move rfl ?_
     refine RL.fn0 rfl rfl rfl en44 (fun w hw => (f_goes l hlen A c w (hrd1.st0 hw) k g y hy (by omega)).mono (fun v L h => (by rw [hgo] at h; exact h : v = .bool false))) rfl ?_
     rintro _ _ rfl
     refine RL.not rfl rfl ?_
     refine RL.nil ?_
     refine X.cond_t rfl ?_
     refine X.exit rfl ?_
     refine X.region rfl ?_
     refine RL.move rfl ?_
     refine RL.add rfl rfl rfl (by omega) ?_
     refine RL.assign rfl ?_
     refine RL.nil ?_
     refine X.hyp ⟨rfl, k + 1, by omega, Lr, (by repeat (first | exact List.Sublist.refl _ | exact List.nil_sublist _ | (rw [List.append_nil]; exact List.Sublist.refl _) | exact List.sublist_append_left _ _ | exact (List.sublist_append_left _ _).trans (List.sublist_append_left _ _) | apply List.Sublist.cons_cons | apply List.Sublist.cons | refine List.Sublist.trans ?_ (List.sublist_append_right _ _))), by omega, by rw [hms]; exact hm, ⟨rfl, rfl, rfl, rfl, by rw [hms]; rfl, rfl, trivial⟩, rfl⟩
    rw [hgo, if_pos rfl] at hms
    obtain ⟨b, junk, rfl, rfl⟩ := hrow.open (by omega)
    refine RL.nil ?_
    refine X.cond_t rfl ?_
    refine X.skip ?_
    refine X.seq ?_
    refine X.block ?_
    refine X.seq ?_
    refine X.seq ?_
    refine X.region rfl ?_
    refine RL.move rfl ?_
    refine RL.move rfl ?_
    refine RL.move rfl ?_
    refine RL.fn0 rfl rfl rfl en44 (fun w hw => (f_goes l hlen A c w (hrd1.st0 hw) k g y hy (by omega)).mono (fun v L h => (by rw [hgo] at h; exact h : v = .bool true))) rfl ?_
    rintro _ _ rfl
    refine RL.not rfl rfl ?_
    refine RL.nil ?_
    refine X.cond_f rfl ?_
    refine X.skip ?_
    refine X.seq ?_
    refine X.region rfl ?_
    refine RL.move rfl ?_
    refine RL.move rfl ?_
    refine RL.indexAddr rfl sl56 rfl rfl (hA (by omega)) rfl (by omega) ?_
    refine RL.loadIA rfl ag61 rfl (elem_at Ins.len hc hy) (by simp) (Ins.len _) ?_
    refine RL.move rfl ?_
    refine RL.fn0 rfl rfl rfl en45 (fun w hw => (f_rshape y s w)) rfl ?_
    rintro _ _ rfl
    refine RL.move rfl ?_
    refine RL.extract rfl rfl rfl ?_
    refine RL.extract rfl rfl rfl ?_
    refine RL.extract rfl rfl rfl ?_
    refine RL.assign rfl ?_
    refine RL.assign rfl ?_
    refine RL.assign rfl ?_
    refine RL.nil ?_
    refine X.seq ?_
    refine X.region rfl ?_
    refine RL.move rfl ?_
    refine RL.move rfl ?_
    refine RL.indexAddr rfl sl68 rfl rfl rfl rfl (by omega) ?_
    refine RL.loadO rfl sc3 rfl (ints_app_get hh) ?_
    refine RL.move rfl ?_
    refine RL.sub rfl rfl rfl (by omega) ?_
    refine RL.move rfl ?_
    refine RL.add rfl rfl rfl (by omega) ?_
    refine RL.assign rfl ?_
    refine RL.nil ?_
    refine X.seq ?_
    refine X.seq ?_
    refine X.region rfl ?_
    refine RL.move rfl ?_
    refine RL.cmp_s rfl rfl rfl rfl (fun h6 => ?_) (fun h6 => ?_)
    ·replace h6 : (_ : Int) ≥ _ := h6
     refine RL.move rfl ?_
     refine RL.move rfl ?_
     refine RL.move rfl ?_
     refine RL.cmp_s rfl rfl rfl rfl (fun h7 => ?_) (fun h7 => ?_)
     ·replace h7 : (_ : Int) ≠ _ := h7
      refine RL.pick_t rfl rfl ?_
      refine RL.nil ?_
      refine X.cond_t rfl ?_
      refine X.seq ?_
      refine X.region rfl ?_
      refine RL.move rfl ?_
      refine RL.move rfl ?_
      refine RL.assign rfl ?_
      refine RL.assign rfl ?_
      refine RL.assign rfl ?_
      refine RL.nil ?_
      refine X.ret ?_
      refine ret3 rfl ?_
      show HRes _ _ _ _
      have hcl : markN l (hts l s g) (k + 1) g = -1 := by rw [hms]; unfold mk leftP; rw [if_pos (by omega)]
      exact HRes.mk hrow rfl (by repeat (first | exact List.Sublist.refl _ | exact List.sublist_append_right _ _ | apply List.Sublist.cons | refine List.Sublist.trans ?_ (List.sublist_append_right _ _))) (heightP_wrong hl hg (by omega) (stepP_of hg hx (wrong5 (.inr (.inl (by rw [clash_stays hcl g (by omega)]; omega))))))
     replace h7 : ¬ ((_ : Int) ≠ _) := h7
     refine RL.pick_t rfl rfl ?_
     refine RL.nil ?_
     refine X.cond_f rfl ?_
     refine X.skip ?_
     refine X.region rfl ?_
     refine RL.move rfl ?_
     refine RL.assign rfl ?_
     refine RL.nil ?_
     refine X.blk ?_
     refine X.region rfl ?_
     refine RL.move rfl ?_
     refine RL.add rfl rfl rfl (by omega) ?_
     refine RL.assign rfl ?_
     refine RL.nil ?_
     refine X.hyp ⟨rfl, k + 1, by omega, _, (by repeat (first | exact List.Sublist.refl _ | exact List.nil_sublist _ | (rw [List.append_nil]; exact List.Sublist.refl _) | exact List.sublist_append_left _ _ | exact (List.sublist_append_left _ _).trans (List.sublist_append_left _ _) | apply List.Sublist.cons_cons | apply List.Sublist.cons | refine List.Sublist.trans ?_ (List.sublist_append_right _ _))), by omega, ?_, ⟨rfl, rfl, rfl, rfl, ?_, rfl, trivial⟩, rfl⟩
     · rw [hms]; unfold mk leftP; split <;> omega
     · refine congrArg (Value.int .i64) ?_
       rw [hms]; unfold mk leftP; split <;> omega
    replace h6 : ¬ ((_ : Int) ≥ _) := h6
    refine RL.move rfl ?_
    refine RL.skip rfl ?_
    refine RL.skip rfl ?_
    refine RL.skip rfl ?_
    refine RL.pick_f rfl rfl ?_
    refine RL.nil ?_
    refine X.cond_f rfl ?_
    refine X.skip ?_
    refine X.region rfl ?_
    refine RL.move rfl ?_
    refine RL.assign rfl ?_
    refine RL.nil ?_
    refine X.blk ?_
    refine X.region rfl ?_
    refine RL.move rfl ?_
    refine RL.add rfl rfl rfl (by omega) ?_
    refine RL.assign rfl ?_
    refine RL.nil ?_
    refine X.hyp ⟨rfl, k + 1, by omega, _, (by repeat (first | exact List.Sublist.refl _ | exact List.nil_sublist _ | (rw [List.append_nil]; exact List.Sublist.refl _) | exact List.sublist_append_left _ _ | exact (List.sublist_append_left _ _).trans (List.sublist_append_left _ _) | apply List.Sublist.cons_cons | apply List.Sublist.cons | refine List.Sublist.trans ?_ (List.sublist_append_right _ _))), by omega, ?_, ⟨rfl, rfl, rfl, rfl, ?_, rfl, trivial⟩, rfl⟩
    · rw [hms]; unfold mk leftP; split <;> omega
    · refine congrArg (Value.int .i64) ?_
      rw [hms]; unfold mk leftP; split <;> omega
   replace h5 : ¬ ((_ : Int) < _) := h5
   obtain rfl : k = g := by omega
   have htk := takeP_range x.op
   have hly := layP_range x.op
   have hmr := markN_range (l := l) (s := s) (m := k) k k
   rcases ho : okP x s with _ | _
   ·refine RL.nil ?_
    refine X.cond_f rfl ?_
    refine X.exit rfl ?_
    refine X.seq ?_
    refine X.region rfl ?_
    refine RL.move rfl ?_
    refine RL.move rfl ?_
    refine RL.indexAddr rfl sl56 rfl rfl (hA (by omega)) rfl (by omega) ?_
    refine RL.loadIA rfl ag61 rfl (elem_at Ins.len hc hx) (by simp) (Ins.len _) ?_
    refine RL.move rfl ?_
    refine RL.fn0 rfl rfl rfl en45 (fun w hw => (f_rshape x s w).mono (fun v L h => (by rw [ho] at h; exact h : v = .tuple #[.int .i64 (takeP x.op), .int .i64 (layP x.op), .bool false]))) rfl ?_
    rintro _ _ rfl
    refine RL.drop (L' := Lr) rfl (List.sublist_append_right _ _) ?_
    refine RL.move rfl ?_
    refine RL.extract rfl rfl rfl ?_
    refine RL.extract rfl rfl rfl ?_
    refine RL.extract rfl rfl rfl ?_
    refine RL.assign rfl ?_
    refine RL.assign rfl ?_
    refine RL.assign rfl ?_
    refine RL.nil ?_
    refine X.seq ?_
    refine X.seq ?_
    refine X.region rfl ?_
    refine RL.move rfl ?_
    refine RL.not rfl rfl ?_
    refine RL.move rfl ?_
    refine RL.skip rfl ?_
    refine RL.skip rfl ?_
    refine RL.pick_t rfl rfl ?_
    refine RL.move rfl ?_
    refine RL.skip rfl ?_
    refine RL.skip rfl ?_
    refine RL.skip rfl ?_
    refine RL.pick_t rfl rfl ?_
    refine RL.move rfl ?_
    refine RL.skip rfl ?_
    refine RL.skip rfl ?_
    refine RL.skip rfl ?_
    refine RL.skip rfl ?_
    refine RL.skip rfl ?_
    refine RL.skip rfl ?_
    refine RL.skip rfl ?_
    refine RL.skip rfl ?_
    refine RL.skip rfl ?_
    refine RL.skip rfl ?_
    refine RL.pick_t rfl rfl ?_
    refine RL.nil ?_
    refine X.cond_t rfl ?_
    refine X.seq ?_
    refine X.region rfl ?_
    refine RL.move rfl ?_
    refine RL.move rfl ?_
    refine RL.assign rfl ?_
    refine RL.assign rfl ?_
    refine RL.assign rfl ?_
    refine RL.nil ?_
    refine X.ret ?_
    refine ret3 rfl ?_
    show HRes _ _ _ _
    exact HRes.mk hrow rfl (by repeat (first | exact List.Sublist.refl _ | exact List.nil_sublist _ | (rw [List.append_nil]; exact List.Sublist.refl _) | exact List.sublist_append_left _ _ | exact (List.sublist_append_left _ _).trans (List.sublist_append_left _ _) | apply List.Sublist.cons_cons | apply List.Sublist.cons | refine List.Sublist.trans ?_ (List.sublist_append_right _ _))) (heightP_wrong hl hg (by omega) (stepP_of hg hx (wrong5 (.inl ho))))
   refine RL.nil ?_
   refine X.cond_f rfl ?_
   refine X.exit rfl ?_
   refine X.seq ?_
   refine X.region rfl ?_
   refine RL.move rfl ?_
   refine RL.move rfl ?_
   refine RL.indexAddr rfl sl56 rfl rfl (hA (by omega)) rfl (by omega) ?_
   refine RL.loadIA rfl ag61 rfl (elem_at Ins.len hc hx) (by simp) (Ins.len _) ?_
   refine RL.move rfl ?_
   refine RL.fn0 rfl rfl rfl en45 (fun w hw => (f_rshape x s w).mono (fun v L h => (by rw [ho] at h; exact h : v = .tuple #[.int .i64 (takeP x.op), .int .i64 (layP x.op), .bool true]))) rfl ?_
   rintro _ _ rfl
   refine RL.drop (L' := Lr) rfl (List.sublist_append_right _ _) ?_
   refine RL.move rfl ?_
   refine RL.extract rfl rfl rfl ?_
   refine RL.extract rfl rfl rfl ?_
   refine RL.extract rfl rfl rfl ?_
   refine RL.assign rfl ?_
   refine RL.assign rfl ?_
   refine RL.assign rfl ?_
   refine RL.nil ?_
   refine X.seq ?_
   refine X.seq ?_
   refine X.region rfl ?_
   refine RL.move rfl ?_
   refine RL.not rfl rfl ?_
   refine RL.move rfl ?_
   refine RL.move rfl ?_
   refine RL.cmp_s rfl rfl rfl rfl (fun c1 => ?_) (fun c1 => ?_)
   ·replace c1 : (_ : Int) < _ := c1
    refine RL.pick_f rfl rfl ?_
    refine RL.move rfl ?_
    refine RL.skip rfl ?_
    refine RL.skip rfl ?_
    refine RL.skip rfl ?_
    refine RL.pick_t rfl rfl ?_
    refine RL.move rfl ?_
    refine RL.skip rfl ?_
    refine RL.skip rfl ?_
    refine RL.skip rfl ?_
    refine RL.skip rfl ?_
    refine RL.skip rfl ?_
    refine RL.skip rfl ?_
    refine RL.skip rfl ?_
    refine RL.skip rfl ?_
    refine RL.skip rfl ?_
    refine RL.skip rfl ?_
    refine RL.pick_t rfl rfl ?_
    refine RL.nil ?_
    refine X.cond_t rfl ?_
    refine X.seq ?_
    refine X.region rfl ?_
    refine RL.move rfl ?_
    refine RL.move rfl ?_
    refine RL.assign rfl ?_
    refine RL.assign rfl ?_
    refine RL.assign rfl ?_
    refine RL.nil ?_
    refine X.ret ?_
    refine ret3 rfl ?_
    show HRes _ _ _ _
    first
      | exact HRes.mk hrow rfl (by repeat (first | exact List.Sublist.refl _ | exact List.nil_sublist _ | (rw [List.append_nil]; exact List.Sublist.refl _) | exact List.sublist_append_left _ _ | exact (List.sublist_append_left _ _).trans (List.sublist_append_left _ _) | apply List.Sublist.cons_cons | apply List.Sublist.cons | refine List.Sublist.trans ?_ (List.sublist_append_right _ _))) (heightP_wrong hl hg (by omega) (stepP_of hg hx (wrong5 (.inr (by omega)))))
      | exact HRes.mk hrow rfl (by repeat (first | exact List.Sublist.refl _ | exact List.nil_sublist _ | (rw [List.append_nil]; exact List.Sublist.refl _) | exact List.sublist_append_left _ _ | exact (List.sublist_append_left _ _).trans (List.sublist_append_left _ _) | apply List.Sublist.cons_cons | apply List.Sublist.cons | refine List.Sublist.trans ?_ (List.sublist_append_right _ _))) (heightP_wrong hl hg (by omega) (stepP_of hg hx (wrong16 ho (by omega) (by unfold leftP; omega))))
      | exact HRes.mk hrow rfl (by repeat (first | exact List.Sublist.refl _ | exact List.nil_sublist _ | (rw [List.append_nil]; exact List.Sublist.refl _) | exact List.sublist_append_left _ _ | exact (List.sublist_append_left _ _).trans (List.sublist_append_left _ _) | apply List.Sublist.cons_cons | apply List.Sublist.cons | refine List.Sublist.trans ?_ (List.sublist_append_right _ _))) (heightP_wrong hl hg (by omega) (stepP_of hg hx (wrong5c ho (by omega) (by unfold leftP; omega) (by omega))))
   replace c1 : ¬ ((_ : Int) < _) := c1
   refine RL.pick_f rfl rfl ?_
   refine RL.move rfl ?_
   refine RL.move rfl ?_
   refine RL.move rfl ?_
   refine RL.cmp_s rfl rfl rfl rfl (fun c2 => ?_) (fun c2 => ?_)
   ·replace c2 : (_ : Int) < _ := c2
    refine RL.pick_f rfl rfl ?_
    refine RL.move rfl ?_
    refine RL.skip rfl ?_
    refine RL.skip rfl ?_
    refine RL.skip rfl ?_
    refine RL.skip rfl ?_
    refine RL.skip rfl ?_
    refine RL.skip rfl ?_
    refine RL.skip rfl ?_
    refine RL.skip rfl ?_
    refine RL.skip rfl ?_
    refine RL.skip rfl ?_
    refine RL.pick_t rfl rfl ?_
    refine RL.nil ?_
    refine X.cond_t rfl ?_
    refine X.seq ?_
    refine X.region rfl ?_
    refine RL.move rfl ?_
    refine RL.move rfl ?_
    refine RL.assign rfl ?_
    refine RL.assign rfl ?_
    refine RL.assign rfl ?_
    refine RL.nil ?_
    refine X.ret ?_
    refine ret3 rfl ?_
    show HRes _ _ _ _
    first
      | exact HRes.mk hrow rfl (by repeat (first | exact List.Sublist.refl _ | exact List.nil_sublist _ | (rw [List.append_nil]; exact List.Sublist.refl _) | exact List.sublist_append_left _ _ | exact (List.sublist_append_left _ _).trans (List.sublist_append_left _ _) | apply List.Sublist.cons_cons | apply List.Sublist.cons | refine List.Sublist.trans ?_ (List.sublist_append_right _ _))) (heightP_wrong hl hg (by omega) (stepP_of hg hx (wrong5 (.inr (by omega)))))
      | exact HRes.mk hrow rfl (by repeat (first | exact List.Sublist.refl _ | exact List.nil_sublist _ | (rw [List.append_nil]; exact List.Sublist.refl _) | exact List.sublist_append_left _ _ | exact (List.sublist_append_left _ _).trans (List.sublist_append_left _ _) | apply List.Sublist.cons_cons | apply List.Sublist.cons | refine List.Sublist.trans ?_ (List.sublist_append_right _ _))) (heightP_wrong hl hg (by omega) (stepP_of hg hx (wrong16 ho (by omega) (by unfold leftP; omega))))
      | exact HRes.mk hrow rfl (by repeat (first | exact List.Sublist.refl _ | exact List.nil_sublist _ | (rw [List.append_nil]; exact List.Sublist.refl _) | exact List.sublist_append_left _ _ | exact (List.sublist_append_left _ _).trans (List.sublist_append_left _ _) | apply List.Sublist.cons_cons | apply List.Sublist.cons | refine List.Sublist.trans ?_ (List.sublist_append_right _ _))) (heightP_wrong hl hg (by omega) (stepP_of hg hx (wrong5c ho (by omega) (by unfold leftP; omega) (by omega))))
   replace c2 : ¬ ((_ : Int) < _) := c2
   refine RL.pick_f rfl rfl ?_
   refine RL.move rfl ?_
   refine RL.move rfl ?_
   refine RL.move rfl ?_
   refine RL.indexAddr rfl sl56 rfl rfl (hA (by omega)) rfl (by omega) ?_
   refine RL.fieldAddr rfl fd61_0 rfl ?_
   refine RL.loadI rfl sc3 rfl (CellsAt.at (elem_at Ins.len hc hx) rfl) (by simp) ?_
   refine RL.cmp_s rfl rfl rfl rfl (fun c3 => ?_) (fun c3 => ?_)
   ·replace c3 : (_ : Int) = _ := c3
    refine RL.move rfl ?_
    refine RL.move rfl ?_
    refine RL.cmp_s rfl rfl rfl rfl (fun c4 => ?_) (fun c4 => ?_)
    ·replace c4 : (_ : Int) ≠ _ := c4
     refine RL.pick_t rfl rfl ?_
     refine RL.pick_f rfl rfl ?_
     refine RL.nil ?_
     refine X.cond_t rfl ?_
     refine X.seq ?_
     refine X.region rfl ?_
     refine RL.move rfl ?_
     refine RL.move rfl ?_
     refine RL.assign rfl ?_
     refine RL.assign rfl ?_
     refine RL.assign rfl ?_
     refine RL.nil ?_
     refine X.ret ?_
     refine ret3 rfl ?_
     show HRes _ _ _ _
     first
       | exact HRes.mk hrow rfl (by repeat (first | exact List.Sublist.refl _ | exact List.nil_sublist _ | (rw [List.append_nil]; exact List.Sublist.refl _) | exact List.sublist_append_left _ _ | exact (List.sublist_append_left _ _).trans (List.sublist_append_left _ _) | apply List.Sublist.cons_cons | apply List.Sublist.cons | refine List.Sublist.trans ?_ (List.sublist_append_right _ _))) (heightP_wrong hl hg (by omega) (stepP_of hg hx (wrong5 (.inr (by omega)))))
       | exact HRes.mk hrow rfl (by repeat (first | exact List.Sublist.refl _ | exact List.nil_sublist _ | (rw [List.append_nil]; exact List.Sublist.refl _) | exact List.sublist_append_left _ _ | exact (List.sublist_append_left _ _).trans (List.sublist_append_left _ _) | apply List.Sublist.cons_cons | apply List.Sublist.cons | refine List.Sublist.trans ?_ (List.sublist_append_right _ _))) (heightP_wrong hl hg (by omega) (stepP_of hg hx (wrong16 ho (by omega) (by unfold leftP; omega))))
       | exact HRes.mk hrow rfl (by repeat (first | exact List.Sublist.refl _ | exact List.nil_sublist _ | (rw [List.append_nil]; exact List.Sublist.refl _) | exact List.sublist_append_left _ _ | exact (List.sublist_append_left _ _).trans (List.sublist_append_left _ _) | apply List.Sublist.cons_cons | apply List.Sublist.cons | refine List.Sublist.trans ?_ (List.sublist_append_right _ _))) (heightP_wrong hl hg (by omega) (stepP_of hg hx (wrong5c ho (by omega) (by unfold leftP; omega) (by omega))))
    replace c4 : ¬ ((_ : Int) ≠ _) := c4
    refine RL.pick_t rfl rfl ?_
    refine RL.pick_f rfl rfl ?_
    refine RL.nil ?_
    refine X.cond_f rfl ?_
    refine X.skip ?_
    refine X.seq ?_
    refine X.seq ?_
    refine X.region rfl ?_
    refine RL.move rfl ?_
    refine RL.move rfl ?_
    refine RL.sub rfl rfl rfl (by omega) ?_
    refine RL.move rfl ?_
    refine RL.add rfl rfl rfl (by omega) ?_
    refine RL.cmp_s rfl rfl rfl rfl (fun c5 => ?_) (fun c5 => ?_)
    ·replace c5 : (_ : Int) > _ := c5
     refine RL.nil ?_
     refine X.cond_t rfl ?_
     refine X.seq ?_
     refine X.region rfl ?_
     refine RL.move rfl ?_
     refine RL.move rfl ?_
     refine RL.assign rfl ?_
     refine RL.assign rfl ?_
     refine RL.assign rfl ?_
     refine RL.nil ?_
     refine X.ret ?_
     refine ret3 rfl ?_
     show HRes _ _ _ _
     first
       | exact HRes.mk hrow rfl (by repeat (first | exact List.Sublist.refl _ | exact List.nil_sublist _ | (rw [List.append_nil]; exact List.Sublist.refl _) | exact List.sublist_append_left _ _ | exact (List.sublist_append_left _ _).trans (List.sublist_append_left _ _) | apply List.Sublist.cons_cons | apply List.Sublist.cons | refine List.Sublist.trans ?_ (List.sublist_append_right _ _))) (heightP_wrong hl hg (by omega) (stepP_of hg hx (wrong5 (.inr (by omega)))))
       | exact HRes.mk hrow rfl (by repeat (first | exact List.Sublist.refl _ | exact List.nil_sublist _ | (rw [List.append_nil]; exact List.Sublist.refl _) | exact List.sublist_append_left _ _ | exact (List.sublist_append_left _ _).trans (List.sublist_append_left _ _) | apply List.Sublist.cons_cons | apply List.Sublist.cons | refine List.Sublist.trans ?_ (List.sublist_append_right _ _))) (heightP_wrong hl hg (by omega) (stepP_of hg hx (wrong16 ho (by omega) (by unfold leftP; omega))))
       | exact HRes.mk hrow rfl (by repeat (first | exact List.Sublist.refl _ | exact List.nil_sublist _ | (rw [List.append_nil]; exact List.Sublist.refl _) | exact List.sublist_append_left _ _ | exact (List.sublist_append_left _ _).trans (List.sublist_append_left _ _) | apply List.Sublist.cons_cons | apply List.Sublist.cons | refine List.Sublist.trans ?_ (List.sublist_append_right _ _))) (heightP_wrong hl hg (by omega) (stepP_of hg hx (wrong5c ho (by omega) (by unfold leftP; omega) (by omega))))
    replace c5 : ¬ ((_ : Int) > _) := c5
    refine RL.nil ?_
    refine X.cond_f rfl ?_
    refine X.skip ?_
    refine X.seq ?_
    refine X.seq ?_
    refine X.region rfl ?_
    refine RL.move rfl ?_
    refine RL.move rfl ?_
    refine RL.indexAddr rfl sl56 rfl rfl (hA (by omega)) rfl (by omega) ?_
    refine RL.fieldAddr rfl fd61_0 rfl ?_
    refine RL.loadI rfl sc3 rfl (CellsAt.at (elem_at Ins.len hc hx) rfl) (by simp) ?_
    refine RL.cmp_s rfl rfl rfl rfl (fun c6 => ?_) (fun c6 => ?_)
    ·replace c6 : (_ : Int) ≠ _ := c6
     refine RL.move rfl ?_
     refine RL.move rfl ?_
     refine RL.move rfl ?_
     refine RL.len rfl sl56 rfl ?_
     refine RL.sub rfl rfl rfl (by omega) ?_
     refine RL.cmp_s rfl rfl rfl rfl (fun c7 => ?_) (fun c7 => ?_)
     ·replace c7 : (_ : Int) = _ := c7
      refine RL.pick_t rfl rfl ?_
      refine RL.move rfl ?_
      refine RL.skip rfl ?_
      refine RL.skip rfl ?_
      refine RL.skip rfl ?_
      refine RL.skip rfl ?_
      refine RL.skip rfl ?_
      refine RL.skip rfl ?_
      refine RL.skip rfl ?_
      refine RL.skip rfl ?_
      refine RL.skip rfl ?_
      refine RL.skip rfl ?_
      refine RL.skip rfl ?_
      refine RL.skip rfl ?_
      refine RL.skip rfl ?_
      refine RL.skip rfl ?_
      refine RL.skip rfl ?_
      refine RL.skip rfl ?_
      refine RL.skip rfl ?_
      refine RL.skip rfl ?_
      refine RL.skip rfl ?_
      refine RL.pick_t rfl rfl ?_
      refine RL.nil ?_
      refine X.cond_t rfl ?_
      refine X.seq ?_
      refine X.region rfl ?_
      refine RL.move rfl ?_
      refine RL.move rfl ?_
      refine RL.assign rfl ?_
      refine RL.assign rfl ?_
      refine RL.assign rfl ?_
      refine RL.nil ?_
      refine X.ret ?_
      refine ret3 rfl ?_
      show HRes _ _ _ _
      first
        | exact HRes.mk hrow rfl (by repeat (first | exact List.Sublist.refl _ | exact List.nil_sublist _ | (rw [List.append_nil]; exact List.Sublist.refl _) | exact List.sublist_append_left _ _ | exact (List.sublist_append_left _ _).trans (List.sublist_append_left _ _) | apply List.Sublist.cons_cons | apply List.Sublist.cons | refine List.Sublist.trans ?_ (List.sublist_append_right _ _))) (heightP_wrong hl hg (by omega) (stepP_of hg hx (wrong5 (.inr (by omega)))))
        | exact HRes.mk hrow rfl (by repeat (first | exact List.Sublist.refl _ | exact List.nil_sublist _ | (rw [List.append_nil]; exact List.Sublist.refl _) | exact List.sublist_append_left _ _ | exact (List.sublist_append_left _ _).trans (List.sublist_append_left _ _) | apply List.Sublist.cons_cons | apply List.Sublist.cons | refine List.Sublist.trans ?_ (List.sublist_append_right _ _))) (heightP_wrong hl hg (by omega) (stepP_of hg hx (wrong16 ho (by omega) (by unfold leftP; omega))))
        | exact HRes.mk hrow rfl (by repeat (first | exact List.Sublist.refl _ | exact List.nil_sublist _ | (rw [List.append_nil]; exact List.Sublist.refl _) | exact List.sublist_append_left _ _ | exact (List.sublist_append_left _ _).trans (List.sublist_append_left _ _) | apply List.Sublist.cons_cons | apply List.Sublist.cons | refine List.Sublist.trans ?_ (List.sublist_append_right _ _))) (heightP_wrong hl hg (by omega) (stepP_of hg hx (wrong5c ho (by omega) (by unfold leftP; omega) (by omega))))
     replace c7 : ¬ ((_ : Int) = _) := c7
     refine RL.pick_t rfl rfl ?_
     refine RL.move rfl ?_
     refine RL.move rfl ?_
     refine RL.move rfl ?_
     refine RL.indexAddr rfl sl56 rfl rfl (hA (by omega)) rfl (by omega) ?_
     refine RL.fieldAddr rfl fd61_0 rfl ?_
     refine RL.loadI rfl sc3 rfl (CellsAt.at (elem_at Ins.len hc hx) rfl) (by simp) ?_
     refine RL.cmp_s rfl rfl rfl rfl (fun c8 => ?_) (fun c8 => ?_)
     ·replace c8 : (_ : Int) = _ := c8
      refine RL.move rfl ?_
      refine RL.move rfl ?_
      refine RL.move rfl ?_
      refine RL.indexAddr rfl sl56 rfl rfl (hA (by omega)) rfl (by omega) ?_
      refine RL.fieldAddr rfl fd61_1 rfl ?_
      refine RL.loadI rfl sc3 rfl (CellsAt.at (elem_at Ins.len hc hx) rfl) (by simp) ?_
      refine RL.move rfl ?_
      refine RL.len rfl sl56 rfl ?_
      refine RL.sub rfl rfl rfl (by omega) ?_
      refine RL.move rfl ?_
      refine RL.sub rfl rfl rfl (by omega) ?_
      refine RL.cmp_s rfl rfl rfl rfl (fun c9 => ?_) (fun c9 => ?_)
      ·replace c9 : (_ : Int) > _ := c9
       refine RL.pick_t rfl rfl ?_
       refine RL.pick_f rfl rfl ?_
       refine RL.nil ?_
       refine X.cond_t rfl ?_
       refine X.seq ?_
       refine X.region rfl ?_
       refine RL.move rfl ?_
       refine RL.move rfl ?_
       refine RL.assign rfl ?_
       refine RL.assign rfl ?_
       refine RL.assign rfl ?_
       refine RL.nil ?_
       refine X.ret ?_
       refine ret3 rfl ?_
       show HRes _ _ _ _
       first
         | exact HRes.mk hrow rfl (by repeat (first | exact List.Sublist.refl _ | exact List.nil_sublist _ | (rw [List.append_nil]; exact List.Sublist.refl _) | exact List.sublist_append_left _ _ | exact (List.sublist_append_left _ _).trans (List.sublist_append_left _ _) | apply List.Sublist.cons_cons | apply List.Sublist.cons | refine List.Sublist.trans ?_ (List.sublist_append_right _ _))) (heightP_wrong hl hg (by omega) (stepP_of hg hx (wrong5 (.inr (by omega)))))
         | exact HRes.mk hrow rfl (by repeat (first | exact List.Sublist.refl _ | exact List.nil_sublist _ | (rw [List.append_nil]; exact List.Sublist.refl _) | exact List.sublist_append_left _ _ | exact (List.sublist_append_left _ _).trans (List.sublist_append_left _ _) | apply List.Sublist.cons_cons | apply List.Sublist.cons | refine List.Sublist.trans ?_ (List.sublist_append_right _ _))) (heightP_wrong hl hg (by omega) (stepP_of hg hx (wrong16 ho (by omega) (by unfold leftP; omega))))
         | exact HRes.mk hrow rfl (by repeat (first | exact List.Sublist.refl _ | exact List.nil_sublist _ | (rw [List.append_nil]; exact List.Sublist.refl _) | exact List.sublist_append_left _ _ | exact (List.sublist_append_left _ _).trans (List.sublist_append_left _ _) | apply List.Sublist.cons_cons | apply List.Sublist.cons | refine List.Sublist.trans ?_ (List.sublist_append_right _ _))) (heightP_wrong hl hg (by omega) (stepP_of hg hx (wrong5c ho (by omega) (by unfold leftP; omega) (by omega))))
      replace c9 : ¬ ((_ : Int) > _) := c9
      refine RL.pick_t rfl rfl ?_
      refine RL.pick_f rfl rfl ?_
      refine RL.nil ?_
      refine X.cond_f rfl ?_
      refine X.skip ?_
      refine X.region rfl ?_
      refine RL.move rfl ?_
      refine RL.move rfl ?_
      have hst : stepP l s (hts l s k) = none := stepP_of hg hx (wrong0 ho (by omega) (by unfold leftP; omega) (by omega))
      have hn := hts_next hg hst
      refine RL.bs1I rfl rfl sl68 zt3 rfl ?_
      intro bb3 hbb3
      refine RL.app1I (Lz := []) rfl rfl sl68 el_int Try.underlying68 (by rw [List.append_nil]) rfl rfl hrow (by rw [ints_length]; omega) (n := (hts l s k ++ [markN l (hts l s k) k k - 1]).length) (by rw [ints_length]; simp) ?_
      intro A3 cp3 Lr3 hr3
      refine RL.assign rfl ?_
      refine RL.nil ?_
      refine X.blk ?_
      refine X.region rfl ?_
      refine RL.move rfl ?_
      refine RL.add rfl rfl rfl (by omega) ?_
      refine RL.assign rfl ?_
      refine RL.nil ?_
      refine X.hyp ⟨rfl, k + 1, by omega, Lr3, (by repeat (first | exact List.Sublist.refl _ | exact List.nil_sublist _ | (rw [List.append_nil]; exact List.Sublist.refl _) | exact List.sublist_append_left _ _ | exact (List.sublist_append_left _ _).trans (List.sublist_append_left _ _) | apply List.Sublist.cons_cons | apply List.Sublist.cons | refine List.Sublist.trans ?_ (List.sublist_append_right _ _))), A3, cp3, Lr3, ?_, by omega, ?_, ?_, rfl⟩
      · rw [hn]; exact hr3.irow
      · rw [hn]; simp [hg]
      · rw [hn]; exact ⟨rfl, rfl, rfl, rfl, trivial⟩
     replace c8 : ¬ ((_ : Int) = _) := c8
     refine RL.move rfl ?_
     refine RL.skip rfl ?_
     refine RL.skip rfl ?_
     refine RL.skip rfl ?_
     refine RL.skip rfl ?_
     refine RL.skip rfl ?_
     refine RL.skip rfl ?_
     refine RL.skip rfl ?_
     refine RL.skip rfl ?_
     refine RL.skip rfl ?_
     refine RL.skip rfl ?_
     refine RL.skip rfl ?_
     refine RL.pick_f rfl rfl ?_
     refine RL.pick_f rfl rfl ?_
     refine RL.nil ?_
     refine X.cond_f rfl ?_
     refine X.skip ?_
     refine X.region rfl ?_
     refine RL.move rfl ?_
     refine RL.move rfl ?_
     have hst : stepP l s (hts l s k) = none := stepP_of hg hx (wrong0 ho (by omega) (by unfold leftP; omega) (by omega))
     have hn := hts_next hg hst
     refine RL.bs1I rfl rfl sl68 zt3 rfl ?_
     intro bb3 hbb3
     refine RL.app1I (Lz := []) rfl rfl sl68 el_int Try.underlying68 (by rw [List.append_nil]) rfl rfl hrow (by rw [ints_length]; omega) (n := (hts l s k ++ [markN l (hts l s k) k k - 1]).length) (by rw [ints_length]; simp) ?_
     intro A3 cp3 Lr3 hr3
     refine RL.assign rfl ?_
     refine RL.nil ?_
     refine X.blk ?_
     refine X.region rfl ?_
     refine RL.move rfl ?_
     refine RL.add rfl rfl rfl (by omega) ?_
     refine RL.assign rfl ?_
     refine RL.nil ?_
     refine X.hyp ⟨rfl, k + 1, by omega, Lr3, (by repeat (first | exact List.Sublist.refl _ | exact List.nil_sublist _ | (rw [List.append_nil]; exact List.Sublist.refl _) | exact List.sublist_append_left _ _ | exact (List.sublist_append_left _ _).trans (List.sublist_append_left _ _) | apply List.Sublist.cons_cons | apply List.Sublist.cons | refine List.Sublist.trans ?_ (List.sublist_append_right _ _))), A3, cp3, Lr3, ?_, by omega, ?_, ?_, rfl⟩
     · rw [hn]; exact hr3.irow
     · rw [hn]; simp [hg]
     · rw [hn]; exact ⟨rfl, rfl, rfl, rfl, trivial⟩
    replace c6 : ¬ ((_ : Int) ≠ _) := c6
    refine RL.move rfl ?_
    refine RL.skip rfl ?_
    refine RL.skip rfl ?_
    refine RL.skip rfl ?_
    refine RL.skip rfl ?_
    refine RL.skip rfl ?_
    refine RL.pick_f rfl rfl ?_
    refine RL.move rfl ?_
    refine RL.move rfl ?_
    refine RL.move rfl ?_
    refine RL.indexAddr rfl sl56 rfl rfl (hA (by omega)) rfl (by omega) ?_
    refine RL.fieldAddr rfl fd61_0 rfl ?_
    refine RL.loadI rfl sc3 rfl (CellsAt.at (elem_at Ins.len hc hx) rfl) (by simp) ?_
    refine RL.cmp_s rfl rfl rfl rfl (fun c10 => ?_) (fun c10 => ?_)
    ·replace c10 : (_ : Int) = _ := c10
     refine RL.move rfl ?_
     refine RL.move rfl ?_
     refine RL.move rfl ?_
     refine RL.indexAddr rfl sl56 rfl rfl (hA (by omega)) rfl (by omega) ?_
     refine RL.fieldAddr rfl fd61_1 rfl ?_
     refine RL.loadI rfl sc3 rfl (CellsAt.at (elem_at Ins.len hc hx) rfl) (by simp) ?_
     refine RL.move rfl ?_
     refine RL.len rfl sl56 rfl ?_
     refine RL.sub rfl rfl rfl (by omega) ?_
     refine RL.move rfl ?_
     refine RL.sub rfl rfl rfl (by omega) ?_
     refine RL.cmp_s rfl rfl rfl rfl (fun c11 => ?_) (fun c11 => ?_)
     ·replace c11 : (_ : Int) > _ := c11
      refine RL.pick_t rfl rfl ?_
      refine RL.pick_f rfl rfl ?_
      refine RL.nil ?_
      refine X.cond_t rfl ?_
      refine X.seq ?_
      refine X.region rfl ?_
      refine RL.move rfl ?_
      refine RL.move rfl ?_
      refine RL.assign rfl ?_
      refine RL.assign rfl ?_
      refine RL.assign rfl ?_
      refine RL.nil ?_
      refine X.ret ?_
      refine ret3 rfl ?_
      show HRes _ _ _ _
      first
        | exact HRes.mk hrow rfl (by repeat (first | exact List.Sublist.refl _ | exact List.nil_sublist _ | (rw [List.append_nil]; exact List.Sublist.refl _) | exact List.sublist_append_left _ _ | exact (List.sublist_append_left _ _).trans (List.sublist_append_left _ _) | apply List.Sublist.cons_cons | apply List.Sublist.cons | refine List.Sublist.trans ?_ (List.sublist_append_right _ _))) (heightP_wrong hl hg (by omega) (stepP_of hg hx (wrong5 (.inr (by omega)))))
        | exact HRes.mk hrow rfl (by repeat (first | exact List.Sublist.refl _ | exact List.nil_sublist _ | (rw [List.append_nil]; exact List.Sublist.refl _) | exact List.sublist_append_left _ _ | exact (List.sublist_append_left _ _).trans (List.sublist_append_left _ _) | apply List.Sublist.cons_cons | apply List.Sublist.cons | refine List.Sublist.trans ?_ (List.sublist_append_right _ _))) (heightP_wrong hl hg (by omega) (stepP_of hg hx (wrong16 ho (by omega) (by unfold leftP; omega))))
        | exact HRes.mk hrow rfl (by repeat (first | exact List.Sublist.refl _ | exact List.nil_sublist _ | (rw [List.append_nil]; exact List.Sublist.refl _) | exact List.sublist_append_left _ _ | exact (List.sublist_append_left _ _).trans (List.sublist_append_left _ _) | apply List.Sublist.cons_cons | apply List.Sublist.cons | refine List.Sublist.trans ?_ (List.sublist_append_right _ _))) (heightP_wrong hl hg (by omega) (stepP_of hg hx (wrong5c ho (by omega) (by unfold leftP; omega) (by omega))))
     replace c11 : ¬ ((_ : Int) > _) := c11
     refine RL.pick_t rfl rfl ?_
     refine RL.pick_f rfl rfl ?_
     refine RL.nil ?_
     refine X.cond_f rfl ?_
     refine X.skip ?_
     refine X.region rfl ?_
     refine RL.move rfl ?_
     refine RL.move rfl ?_
     have hst : stepP l s (hts l s k) = none := stepP_of hg hx (wrong0 ho (by omega) (by unfold leftP; omega) (by omega))
     have hn := hts_next hg hst
     refine RL.bs1I rfl rfl sl68 zt3 rfl ?_
     intro bb3 hbb3
     refine RL.app1I (Lz := []) rfl rfl sl68 el_int Try.underlying68 (by rw [List.append_nil]) rfl rfl hrow (by rw [ints_length]; omega) (n := (hts l s k ++ [markN l (hts l s k) k k - 1]).length) (by rw [ints_length]; simp) ?_
     intro A3 cp3 Lr3 hr3
     refine RL.assign rfl ?_
     refine RL.nil ?_
     refine X.blk ?_
     refine X.region rfl ?_
     refine RL.move rfl ?_
     refine RL.add rfl rfl rfl (by omega) ?_
     refine RL.assign rfl ?_
     refine RL.nil ?_
     refine X.hyp ⟨rfl, k + 1, by omega, Lr3, (by repeat (first | exact List.Sublist.refl _ | exact List.nil_sublist _ | (rw [List.append_nil]; exact List.Sublist.refl _) | exact List.sublist_append_left _ _ | exact (List.sublist_append_left _ _).trans (List.sublist_append_left _ _) | apply List.Sublist.cons_cons | apply List.Sublist.cons | refine List.Sublist.trans ?_ (List.sublist_append_right _ _))), A3, cp3, Lr3, ?_, by omega, ?_, ?_, rfl⟩
     · rw [hn]; exact hr3.irow
     · rw [hn]; simp [hg]
     · rw [hn]; exact ⟨rfl, rfl, rfl, rfl, trivial⟩
    replace c10 : ¬ ((_ : Int) = _) := c10
    refine RL.move rfl ?_
    refine RL.skip rfl ?_
    refine RL.skip rfl ?_
    refine RL.skip rfl ?_
    refine RL.skip rfl ?_
    refine RL.skip rfl ?_
    refine RL.skip rfl ?_
    refine RL.skip rfl ?_
    refine RL.skip rfl ?_
    refine RL.skip rfl ?_
    refine RL.skip rfl ?_
    refine RL.skip rfl ?_
    refine RL.pick_f rfl rfl ?_
    refine RL.pick_f rfl rfl ?_
    refine RL.nil ?_
    refine X.cond_f rfl ?_
    refine X.skip ?_
    refine X.region rfl ?_
    refine RL.move rfl ?_
    refine RL.move rfl ?_
    have hst : stepP l s (hts l s k) = none := stepP_of hg hx (wrong0 ho (by omega) (by unfold leftP; omega) (by omega))
    have hn := hts_next hg hst
    refine RL.bs1I rfl rfl sl68 zt3 rfl ?_
    intro bb3 hbb3
    refine RL.app1I (Lz := []) rfl rfl sl68 el_int Try.underlying68 (by rw [List.append_nil]) rfl rfl hrow (by rw [ints_length]; omega) (n := (hts l s k ++ [markN l (hts l s k) k k - 1]).length) (by rw [ints_length]; simp) ?_
    intro A3 cp3 Lr3 hr3
    refine RL.assign rfl ?_
    refine RL.nil ?_
    refine X.blk ?_
    refine X.region rfl ?_
    refine RL.move rfl ?_
    refine RL.add rfl rfl rfl (by omega) ?_
    refine RL.assign rfl ?_
    refine RL.nil ?_
    refine X.hyp ⟨rfl, k + 1, by omega, Lr3, (by repeat (first | exact List.Sublist.refl _ | exact List.nil_sublist _ | (rw [List.append_nil]; exact List.Sublist.refl _) | exact List.sublist_append_left _ _ | exact (List.sublist_append_left _ _).trans (List.sublist_append_left _ _) | apply List.Sublist.cons_cons | apply List.Sublist.cons | refine List.Sublist.trans ?_ (List.sublist_append_right _ _))), A3, cp3, Lr3, ?_, by omega, ?_, ?_, rfl⟩
    · rw [hn]; exact hr3.irow
    · rw [hn]; simp [hg]
    · rw [hn]; exact ⟨rfl, rfl, rfl, rfl, trivial⟩
   replace c3 : ¬ ((_ : Int) = _) := c3
   refine RL.move rfl ?_
   refine RL.skip rfl ?_
   refine RL.skip rfl ?_
   refine RL.pick_f rfl rfl ?_
   refine RL.pick_f rfl rfl ?_
   refine RL.nil ?_
   refine X.cond_f rfl ?_
   refine X.skip ?_
   refine X.seq ?_
   refine X.seq ?_
   refine X.region rfl ?_
   refine RL.move rfl ?_
   refine RL.move rfl ?_
   refine RL.sub rfl rfl rfl (by omega) ?_
   refine RL.move rfl ?_
   refine RL.add rfl rfl rfl (by omega) ?_
   refine RL.cmp_s rfl rfl rfl rfl (fun c12 => ?_) (fun c12 => ?_)
   ·replace c12 : (_ : Int) > _ := c12
    refine RL.nil ?_
    refine X.cond_t rfl ?_
    refine X.seq ?_
    refine X.region rfl ?_
    refine RL.move rfl ?_
    refine RL.move rfl ?_
    refine RL.assign rfl ?_
    refine RL.assign rfl ?_
    refine RL.assign rfl ?_
    refine RL.nil ?_
    refine X.ret ?_
    refine ret3 rfl ?_
    show HRes _ _ _ _
    first
      | exact HRes.mk hrow rfl (by repeat (first | exact List.Sublist.refl _ | exact List.nil_sublist _ | (rw [List.append_nil]; exact List.Sublist.refl _) | exact List.sublist_append_left _ _ | exact (List.sublist_append_left _ _).trans (List.sublist_append_left _ _) | apply List.Sublist.cons_cons | apply List.Sublist.cons | refine List.Sublist.trans ?_ (List.sublist_append_right _ _))) (heightP_wrong hl hg (by omega) (stepP_of hg hx (wrong5 (.inr (by omega)))))
      | exact HRes.mk hrow rfl (by repeat (first | exact List.Sublist.refl _ | exact List.nil_sublist _ | (rw [List.append_nil]; exact List.Sublist.refl _) | exact List.sublist_append_left _ _ | exact (List.sublist_append_left _ _).trans (List.sublist_append_left _ _) | apply List.Sublist.cons_cons | apply List.Sublist.cons | refine List.Sublist.trans ?_ (List.sublist_append_right _ _))) (heightP_wrong hl hg (by omega) (stepP_of hg hx (wrong16 ho (by omega) (by unfold leftP; omega))))
      | exact HRes.mk hrow rfl (by repeat (first | exact List.Sublist.refl _ | exact List.nil_sublist _ | (rw [List.append_nil]; exact List.Sublist.refl _) | exact List.sublist_append_left _ _ | exact (List.sublist_append_left _ _).trans (List.sublist_append_left _ _) | apply List.Sublist.cons_cons | apply List.Sublist.cons | refine List.Sublist.trans ?_ (List.sublist_append_right _ _))) (heightP_wrong hl hg (by omega) (stepP_of hg hx (wrong5c ho (by omega) (by unfold leftP; omega) (by omega))))
   replace c12 : ¬ ((_ : Int) > _) := c12
   refine RL.nil ?_
   refine X.cond_f rfl ?_
   refine X.skip ?_
   refine X.seq ?_
   refine X.seq ?_
   refine X.region rfl ?_
   refine RL.move rfl ?_
   refine RL.move rfl ?_
   refine RL.indexAddr rfl sl56 rfl rfl (hA (by omega)) rfl (by omega) ?_
   refine RL.fieldAddr rfl fd61_0 rfl ?_
   refine RL.loadI rfl sc3 rfl (CellsAt.at (elem_at Ins.len hc hx) rfl) (by simp) ?_
   refine RL.cmp_s rfl rfl rfl rfl (fun c13 => ?_) (fun c13 => ?_)
   ·replace c13 : (_ : Int) ≠ _ := c13
    refine RL.move rfl ?_
    refine RL.move rfl ?_
    refine RL.move rfl ?_
    refine RL.len rfl sl56 rfl ?_
    refine RL.sub rfl rfl rfl (by omega) ?_
    refine RL.cmp_s rfl rfl rfl rfl (fun c14 => ?_) (fun c14 => ?_)
    ·replace c14 : (_ : Int) = _ := c14
     refine RL.pick_t rfl rfl ?_
     refine RL.move rfl ?_
     refine RL.skip rfl ?_
     refine RL.skip rfl ?_
     refine RL.skip rfl ?_
     refine RL.skip rfl ?_
     refine RL.skip rfl ?_
     refine RL.skip rfl ?_
     refine RL.skip rfl ?_
     refine RL.skip rfl ?_
     refine RL.skip rfl ?_
     refine RL.skip rfl ?_
     refine RL.skip rfl ?_
     refine RL.skip rfl ?_
     refine RL.skip rfl ?_
     refine RL.skip rfl ?_
     refine RL.skip rfl ?_
     refine RL.skip rfl ?_
     refine RL.skip rfl ?_
     refine RL.skip rfl ?_
     refine RL.skip rfl ?_
     refine RL.pick_t rfl rfl ?_
     refine RL.nil ?_
     refine X.cond_t rfl ?_
     refine X.seq ?_
     refine X.region rfl ?_
     refine RL.move rfl ?_
     refine RL.move rfl ?_
     refine RL.assign rfl ?_
     refine RL.assign rfl ?_
     refine RL.assign rfl ?_
     refine RL.nil ?_
     refine X.ret ?_
     refine ret3 rfl ?_
     show HRes _ _ _ _
     first
       | exact HRes.mk hrow rfl (by repeat (first | exact List.Sublist.refl _ | exact List.nil_sublist _ | (rw [List.append_nil]; exact List.Sublist.refl _) | exact List.sublist_append_left _ _ | exact (List.sublist_append_left _ _).trans (List.sublist_append_left _ _) | apply List.Sublist.cons_cons | apply List.Sublist.cons | refine List.Sublist.trans ?_ (List.sublist_append_right _ _))) (heightP_wrong hl hg (by omega) (stepP_of hg hx (wrong5 (.inr (by omega)))))
       | exact HRes.mk hrow rfl (by repeat (first | exact List.Sublist.refl _ | exact List.nil_sublist _ | (rw [List.append_nil]; exact List.Sublist.refl _) | exact List.sublist_append_left _ _ | exact (List.sublist_append_left _ _).trans (List.sublist_append_left _ _) | apply List.Sublist.cons_cons | apply List.Sublist.cons | refine List.Sublist.trans ?_ (List.sublist_append_right _ _))) (heightP_wrong hl hg (by omega) (stepP_of hg hx (wrong16 ho (by omega) (by unfold leftP; omega))))
       | exact HRes.mk hrow rfl (by repeat (first | exact List.Sublist.refl _ | exact List.nil_sublist _ | (rw [List.append_nil]; exact List.Sublist.refl _) | exact List.sublist_append_left _ _ | exact (List.sublist_append_left _ _).trans (List.sublist_append_left _ _) | apply List.Sublist.cons_cons | apply List.Sublist.cons | refine List.Sublist.trans ?_ (List.sublist_append_right _ _))) (heightP_wrong hl hg (by omega) (stepP_of hg hx (wrong5c ho (by omega) (by unfold leftP; omega) (by omega))))
    replace c14 : ¬ ((_ : Int) = _) := c14
    refine RL.pick_t rfl rfl ?_
    refine RL.move rfl ?_
    refine RL.move rfl ?_
    refine RL.move rfl ?_
    refine RL.indexAddr rfl sl56 rfl rfl (hA (by omega)) rfl (by omega) ?_
    refine RL.fieldAddr rfl fd61_0 rfl ?_
    refine RL.loadI rfl sc3 rfl (CellsAt.at (elem_at Ins.len hc hx) rfl) (by simp) ?_
    refine RL.cmp_s rfl rfl rfl rfl (fun c15 => ?_) (fun c15 => ?_)
    ·replace c15 : (_ : Int) = _ := c15
     refine RL.move rfl ?_
     refine RL.move rfl ?_
     refine RL.move rfl ?_
     refine RL.indexAddr rfl sl56 rfl rfl (hA (by omega)) rfl (by omega) ?_
     refine RL.fieldAddr rfl fd61_1 rfl ?_
     refine RL.loadI rfl sc3 rfl (CellsAt.at (elem_at Ins.len hc hx) rfl) (by simp) ?_
     refine RL.move rfl ?_
     refine RL.len rfl sl56 rfl ?_
     refine RL.sub rfl rfl rfl (by omega) ?_
     refine RL.move rfl ?_
     refine RL.sub rfl rfl rfl (by omega) ?_
     refine RL.cmp_s rfl rfl rfl rfl (fun c16 => ?_) (fun c16 => ?_)
     ·replace c16 : (_ : Int) > _ := c16
      refine RL.pick_t rfl rfl ?_
      refine RL.pick_f rfl rfl ?_
      refine RL.nil ?_
      refine X.cond_t rfl ?_
      refine X.seq ?_
      refine X.region rfl ?_
      refine RL.move rfl ?_
      refine RL.move rfl ?_
      refine RL.assign rfl ?_
      refine RL.assign rfl ?_
      refine RL.assign rfl ?_
      refine RL.nil ?_
      refine X.ret ?_
      refine ret3 rfl ?_
      show HRes _ _ _ _
      first
        | exact HRes.mk hrow rfl (by repeat (first | exact List.Sublist.refl _ | exact List.nil_sublist _ | (rw [List.append_nil]; exact List.Sublist.refl _) | exact List.sublist_append_left _ _ | exact (List.sublist_append_left _ _).trans (List.sublist_append_left _ _) | apply List.Sublist.cons_cons | apply List.Sublist.cons | refine List.Sublist.trans ?_ (List.sublist_append_right _ _))) (heightP_wrong hl hg (by omega) (stepP_of hg hx (wrong5 (.inr (by omega)))))
        | exact HRes.mk hrow rfl (by repeat (first | exact List.Sublist.refl _ | exact List.nil_sublist _ | (rw [List.append_nil]; exact List.Sublist.refl _) | exact List.sublist_append_left _ _ | exact (List.sublist_append_left _ _).trans (List.sublist_append_left _ _) | apply List.Sublist.cons_cons | apply List.Sublist.cons | refine List.Sublist.trans ?_ (List.sublist_append_right _ _))) (heightP_wrong hl hg (by omega) (stepP_of hg hx (wrong16 ho (by omega) (by unfold leftP; omega))))
        | exact HRes.mk hrow rfl (by repeat (first | exact List.Sublist.refl _ | exact List.nil_sublist _ | (rw [List.append_nil]; exact List.Sublist.refl _) | exact List.sublist_append_left _ _ | exact (List.sublist_append_left _ _).trans (List.sublist_append_left _ _) | apply List.Sublist.cons_cons | apply List.Sublist.cons | refine List.Sublist.trans ?_ (List.sublist_append_right _ _))) (heightP_wrong hl hg (by omega) (stepP_of hg hx (wrong5c ho (by omega) (by unfold leftP; omega) (by omega))))
     replace c16 : ¬ ((_ : Int) > _) := c16
     refine RL.pick_t rfl rfl ?_
     refine RL.pick_f rfl rfl ?_
     refine RL.nil ?_
     refine X.cond_f rfl ?_
     refine X.skip ?_
     refine X.region rfl ?_
     refine RL.move rfl ?_
     refine RL.move rfl ?_
     have hst : stepP l s (hts l s k) = none := stepP_of hg hx (wrong0 ho (by omega) (by unfold leftP; omega) (by omega))
     have hn := hts_next hg hst
     refine RL.bs1I rfl rfl sl68 zt3 rfl ?_
     intro bb3 hbb3
     refine RL.app1I (Lz := []) rfl rfl sl68 el_int Try.underlying68 (by rw [List.append_nil]) rfl rfl hrow (by rw [ints_length]; omega) (n := (hts l s k ++ [markN l (hts l s k) k k - 1]).length) (by rw [ints_length]; simp) ?_
     intro A3 cp3 Lr3 hr3
     refine RL.assign rfl ?_
     refine RL.nil ?_
     refine X.blk ?_
     refine X.region rfl ?_
     refine RL.move rfl ?_
     refine RL.add rfl rfl rfl (by omega) ?_
     refine RL.assign rfl ?_
     refine RL.nil ?_
     refine X.hyp ⟨rfl, k + 1, by omega, Lr3, (by repeat (first | exact List.Sublist.refl _ | exact List.nil_sublist _ | (rw [List.append_nil]; exact List.Sublist.refl _) | exact List.sublist_append_left _ _ | exact (List.sublist_append_left _ _).trans (List.sublist_append_left _ _) | apply List.Sublist.cons_cons | apply List.Sublist.cons | refine List.Sublist.trans ?_ (List.sublist_append_right _ _))), A3, cp3, Lr3, ?_, by omega, ?_, ?_, rfl⟩
     · rw [hn]; exact hr3.irow
     · rw [hn]; simp [hg]
     · rw [hn]; exact ⟨rfl, rfl, rfl, rfl, trivial⟩
    replace c15 : ¬ ((_ : Int) = _) := c15
    refine RL.move rfl ?_
    refine RL.skip rfl ?_
    refine RL.skip rfl ?_
    refine RL.skip rfl ?_
    refine RL.skip rfl ?_
    refine RL.skip rfl ?_
    refine RL.skip rfl ?_
    refine RL.skip rfl ?_
    refine RL.skip rfl ?_
    refine RL.skip rfl ?_
    refine RL.skip rfl ?_
    refine RL.skip rfl ?_
    refine RL.pick_f rfl rfl ?_
    refine RL.pick_f rfl rfl ?_
    refine RL.nil ?_
    refine X.cond_f rfl ?_
    refine X.skip ?_
    refine X.region rfl ?_
    refine RL.move rfl ?_
    refine RL.move rfl ?_
    have hst : stepP l s (hts l s k) = none := stepP_of hg hx (wrong0 ho (by omega) (by unfold leftP; omega) (by omega))
    have hn := hts_next hg hst
    refine RL.bs1I rfl rfl sl68 zt3 rfl ?_
    intro bb3 hbb3
    refine RL.app1I (Lz := []) rfl rfl sl68 el_int Try.underlying68 (by rw [List.append_nil]) rfl rfl hrow (by rw [ints_length]; omega) (n := (hts l s k ++ [markN l (hts l s k) k k - 1]).length) (by rw [ints_length]; simp) ?_
    intro A3 cp3 Lr3 hr3
    refine RL.assign rfl ?_
    refine RL.nil ?_
    refine X.blk ?_
    refine X.region rfl ?_
    refine RL.move rfl ?_
    refine RL.add rfl rfl rfl (by omega) ?_
    refine RL.assign rfl ?_
    refine RL.nil ?_
    refine X.hyp ⟨rfl, k + 1, by omega, Lr3, (by repeat (first | exact List.Sublist.refl _ | exact List.nil_sublist _ | (rw [List.append_nil]; exact List.Sublist.refl _) | exact List.sublist_append_left _ _ | exact (List.sublist_append_left _ _).trans (List.sublist_append_left _ _) | apply List.Sublist.cons_cons | apply List.Sublist.cons | refine List.Sublist.trans ?_ (List.sublist_append_right _ _))), A3, cp3, Lr3, ?_, by omega, ?_, ?_, rfl⟩
    · rw [hn]; exact hr3.irow
    · rw [hn]; simp [hg]
    · rw [hn]; exact ⟨rfl, rfl, rfl, rfl, trivial⟩
   replace c13 : ¬ ((_ : Int) ≠ _) := c13
   refine RL.move rfl ?_
   refine RL.skip rfl ?_
   refine RL.skip rfl ?_
   refine RL.skip rfl ?_
   refine RL.skip rfl ?_
   refine RL.skip rfl ?_
   refine RL.pick_f rfl rfl ?_
   refine RL.move rfl ?_
   refine RL.move rfl ?_
   refine RL.move rfl ?_
   refine RL.indexAddr rfl sl56 rfl rfl (hA (by omega)) rfl (by omega) ?_
   refine RL.fieldAddr rfl fd61_0 rfl ?_
   refine RL.loadI rfl sc3 rfl (CellsAt.at (elem_at Ins.len hc hx) rfl) (by simp) ?_
   refine RL.cmp_s rfl rfl rfl rfl (fun c17 => ?_) (fun c17 => ?_)
   ·replace c17 : (_ : Int) = _ := c17
    refine RL.move rfl ?_
    refine RL.move rfl ?_
    refine RL.move rfl ?_
    refine RL.indexAddr rfl sl56 rfl rfl (hA (by omega)) rfl (by omega) ?_
    refine RL.fieldAddr rfl fd61_1 rfl ?_
    refine RL.loadI rfl sc3 rfl (CellsAt.at (elem_at Ins.len hc hx) rfl) (by simp) ?_
    refine RL.move rfl ?_
    refine RL.len rfl sl56 rfl ?_
    refine RL.sub rfl rfl rfl (by omega) ?_
    refine RL.move rfl ?_
    refine RL.sub rfl rfl rfl (by omega) ?_
    refine RL.cmp_s rfl rfl rfl rfl (fun c18 => ?_) (fun c18 => ?_)
    ·replace c18 : (_ : Int) > _ := c18
     refine RL.pick_t rfl rfl ?_
     refine RL.pick_f rfl rfl ?_
     refine RL.nil ?_
     refine X.cond_t rfl ?_
     refine X.seq ?_
     refine X.region rfl ?_
     refine RL.move rfl ?_
     refine RL.move rfl ?_
     refine RL.assign rfl ?_
     refine RL.assign rfl ?_
     refine RL.assign rfl ?_
     refine RL.nil ?_
     refine X.ret ?_
     refine ret3 rfl ?_
     show HRes _ _ _ _
     first
       | exact HRes.mk hrow rfl (by repeat (first | exact List.Sublist.refl _ | exact List.nil_sublist _ | (rw [List.append_nil]; exact List.Sublist.refl _) | exact List.sublist_append_left _ _ | exact (List.sublist_append_left _ _).trans (List.sublist_append_left _ _) | apply List.Sublist.cons_cons | apply List.Sublist.cons | refine List.Sublist.trans ?_ (List.sublist_append_right _ _))) (heightP_wrong hl hg (by omega) (stepP_of hg hx (wrong5 (.inr (by omega)))))
       | exact HRes.mk hrow rfl (by repeat (first | exact List.Sublist.refl _ | exact List.nil_sublist _ | (rw [List.append_nil]; exact List.Sublist.refl _) | exact List.sublist_append_left _ _ | exact (List.sublist_append_left _ _).trans (List.sublist_append_left _ _) | apply List.Sublist.cons_cons | apply List.Sublist.cons | refine List.Sublist.trans ?_ (List.sublist_append_right _ _))) (heightP_wrong hl hg (by omega) (stepP_of hg hx (wrong16 ho (by omega) (by unfold leftP; omega))))
       | exact HRes.mk hrow rfl (by repeat (first | exact List.Sublist.refl _ | exact List.nil_sublist _ | (rw [List.append_nil]; exact List.Sublist.refl _) | exact List.sublist_append_left _ _ | exact (List.sublist_append_left _ _).trans (List.sublist_append_left _ _) | apply List.Sublist.cons_cons | apply List.Sublist.cons | refine List.Sublist.trans ?_ (List.sublist_append_right _ _))) (heightP_wrong hl hg (by omega) (stepP_of hg hx (wrong5c ho (by omega) (by unfold leftP; omega) (by omega))))
    replace c18 : ¬ ((_ : Int) > _) := c18
    refine RL.pick_t rfl rfl ?_
    refine RL.pick_f rfl rfl ?_
    refine RL.nil ?_
    refine X.cond_f rfl ?_
    refine X.skip ?_
    refine X.region rfl ?_
    refine RL.move rfl ?_
    refine RL.move rfl ?_
    have hst : stepP l s (hts l s k) = none := stepP_of hg hx (wrong0 ho (by omega) (by unfold leftP; omega) (by omega))
    have hn := hts_next hg hst
    refine RL.bs1I rfl rfl sl68 zt3 rfl ?_
    intro bb3 hbb3
    refine RL.app1I (Lz := []) rfl rfl sl68 el_int Try.underlying68 (by rw [List.append_nil]) rfl rfl hrow (by rw [ints_length]; omega) (n := (hts l s k ++ [markN l (hts l s k) k k - 1]).length) (by rw [ints_length]; simp) ?_
    intro A3 cp3 Lr3 hr3
    refine RL.assign rfl ?_
    refine RL.nil ?_
    refine X.blk ?_
    refine X.region rfl ?_
    refine RL.move rfl ?_
    refine RL.add rfl rfl rfl (by omega) ?_
    refine RL.assign rfl ?_
    refine RL.nil ?_
    refine X.hyp ⟨rfl, k + 1, by omega, Lr3, (by repeat (first | exact List.Sublist.refl _ | exact List.nil_sublist _ | (rw [List.append_nil]; exact List.Sublist.refl _) | exact List.sublist_append_left _ _ | exact (List.sublist_append_left _ _).trans (List.sublist_append_left _ _) | apply List.Sublist.cons_cons | apply List.Sublist.cons | refine List.Sublist.trans ?_ (List.sublist_append_right _ _))), A3, cp3, Lr3, ?_, by omega, ?_, ?_, rfl⟩
    · rw [hn]; exact hr3.irow
    · rw [hn]; simp [hg]
    · rw [hn]; exact ⟨rfl, rfl, rfl, rfl, trivial⟩
   replace c17 : ¬ ((_ : Int) = _) := c17
   refine RL.move rfl ?_
   refine RL.skip rfl ?_
   refine RL.skip rfl ?_
   refine RL.skip rfl ?_
   refine RL.skip rfl ?_
   refine RL.skip rfl ?_
   refine RL.skip rfl ?_
   refine RL.skip rfl ?_
   refine RL.skip rfl ?_
   refine RL.skip rfl ?_
   refine RL.skip rfl ?_
   refine RL.skip rfl ?_
   refine RL.pick_f rfl rfl ?_
   refine RL.pick_f rfl rfl ?_
   refine RL.nil ?_
   refine X.cond_f rfl ?_
   refine X.skip ?_
   refine X.region rfl ?_
   refine RL.move rfl ?_
   refine RL.move rfl ?_
   have hst : stepP l s (hts l s k) = none := stepP_of hg hx (wrong0 ho (by omega) (by unfold leftP; omega) (by omega))
   have hn := hts_next hg hst
   refine RL.bs1I rfl rfl sl68 zt3 rfl ?_
   intro bb3 hbb3
   refine RL.app1I (Lz := []) rfl rfl sl68 el_int Try.underlying68 (by rw [List.append_nil]) rfl rfl hrow (by rw [ints_length]; omega) (n := (hts l s k ++ [markN l (hts l s k) k k - 1]).length) (by rw [ints_length]; simp) ?_
   intro A3 cp3 Lr3 hr3
   refine RL.assign rfl ?_
   refine RL.nil ?_
   refine X.blk ?_
   refine X.region rfl ?_
   refine RL.move rfl ?_
   refine RL.add rfl rfl rfl (by omega) ?_
   refine RL.assign rfl ?_
   refine RL.nil ?_
   refine X.hyp ⟨rfl, k + 1, by omega, Lr3, (by repeat (first | exact List.Sublist.refl _ | exact List.nil_sublist _ | (rw [List.append_nil]; exact List.Sublist.refl _) | exact List.sublist_append_left _ _ | exact (List.sublist_append_left _ _).trans (List.sublist_append_left _ _) | apply List.Sublist.cons_cons | apply List.Sublist.cons | refine List.Sublist.trans ?_ (List.sublist_append_right _ _))), A3, cp3, Lr3, ?_, by omega, ?_, ?_, rfl⟩
   · rw [hn]; exact hr3.irow
   · rw [hn]; simp [hg]
   · rw [hn]; exact ⟨rfl, rfl, rfl, rfl, trivial⟩
  replace h4 : ¬ ((_ : Int) = _) := h4
  refine RL.nil ?_
  refine X.cond_f rfl ?_
  refine X.skip ?_
  refine X.seq ?_
  refine X.seq ?_
  refine X.region rfl ?_
  refine RL.assign rfl ?_
  refine RL.nil ?_
  refine X.block ?_
  refine X.loop (γ := Nat) (fun k ρ L => k ≤ g ∧ 0 ≤ markN l (hts l s g) k g ∧ Has ρ [(0, .slice A l.length c), (1, .int .i64 s), (7, .slice A2 (hts l s g).length cp), (8, .int .i64 g), (9, .int .i64 (markN l (hts l s g) k g - 1)), (10, .int .i64 k)] ∧ L = Lr) (fun k => g - k) 0 ⟨_, List.Sublist.refl _, Nat.zero_le _, by simp only [markN]; split <;> omega, ⟨rfl, rfl, rfl, rfl, congrArg (Value.int .i64) (show (-1 : Int) = markN l (hts l s g) 0 g - 1 by simp [markN, show ¬ g = 0 by omega]), rfl, trivial⟩, rfl⟩ ?_
  rintro k _ Lr ⟨hk, hm, hρ, rfl⟩
  obtain ⟨base, rfl⟩ := hρ.base
  clear hρ
  refine X.seq ?_
  refine X.seq ?_
  refine X.region rfl ?_
  refine RL.move rfl ?_
  refine RL.move rfl ?_
  refine RL.cmp_s rfl rfl rfl rfl (fun h5 => ?_) (fun h5 => ?_)
  ·replace h5 : (_ : Int) < _ := h5
   obtain ⟨y, hy⟩ : ∃ y, l[k]? = some y := ⟨_, List.getElem?_eq_getElem (by omega)⟩
   obtain ⟨hv, hh⟩ : ∃ hv, (hts l s g)[k]? = some hv := ⟨_, List.getElem?_eq_getElem (by omega)⟩
   have hlr := left_range hh hy
   have hlf : leftP y hv = hv - takeP y.op + layP y.op := rfl
   have htk := takeP_range y.op
   have hly := layP_range y.op
   have hmr := markN_range (l := l) (s := s) (m := g) k g
   have hms := markN_step (t := g) hy hh
   rcases hgo : goesP y k g with _ | _
   ·rw [hgo, if_neg (by simp)] at hms
    refine RL.nil ?_
    refine X.cond_t rfl ?_
    refine X.skip ?_
    refine X.seq ?_
    refine X.block ?_
    refine X.seq ?_
    refine X.seq ?_
    refine X.region rfl ?_
    refine RL.move rfl ?_
    refine RL.move rfl ?_
    refine RL.move rfl ?_
    refine RL.fn0 rfl rfl rfl en44 (fun w hw => (f_goes l hlen A c w (hrd1.st0 hw) k g y hy (by omega)).mono (fun v L h => (by rw [hgo] at h; exact h : v = .bool false))) rfl ?_
    rintro _ _ rfl
    refine RL.not rfl rfl ?_
    refine RL.nil ?_
    refine X.cond_t rfl ?_
    refine X.exit rfl ?_
    refine X.region rfl ?_
    refine RL.move rfl ?_
    refine RL.add rfl rfl rfl (by omega) ?_
    refine RL.assign rfl ?_
    refine RL.nil ?_
    refine X.hyp ⟨rfl, k + 1, by omega, Lr, (by repeat (first | exact List.Sublist.refl _ | exact List.nil_sublist _ | (rw [List.append_nil]; exact List.Sublist.refl _) | exact List.sublist_append_left _ _ | exact (List.sublist_append_left _ _).trans (List.sublist_append_left _ _) | apply List.Sublist.cons_cons | apply List.Sublist.cons | refine List.Sublist.trans ?_ (List.sublist_append_right _ _))), by omega, by rw [hms]; exact hm, ⟨rfl, rfl, rfl, rfl, by rw [hms]; rfl, rfl, trivial⟩, rfl⟩
   rw [hgo, if_pos rfl] at hms
   obtain ⟨b, junk, rfl, rfl⟩ := hrow.open (by omega)
   refine RL.nil ?_
   refine X.cond_t rfl ?_
   refine X.skip ?_
   refine X.seq ?_
   refine X.block ?_
   refine X.seq ?_
   refine X.seq ?_
   refine X.region rfl ?_
   refine RL.move rfl ?_
   refine RL.move rfl ?_
   refine RL.move rfl ?_
   refine RL.fn0 rfl rfl rfl en44 (fun w hw => (f_goes l hlen A c w (hrd1.st0 hw) k g y hy (by omega)).mono (fun v L h => (by rw [hgo] at h; exact h : v = .bool true))) rfl ?_
   rintro _ _ rfl
   refine RL.not rfl rfl ?_
   refine RL.nil ?_
   refine X.cond_f rfl ?_
   refine X.skip ?_
   refine X.seq ?_
   refine X.region rfl ?_
   refine RL.move rfl ?_
   refine RL.move rfl ?_
   refine RL.indexAddr rfl sl56 rfl rfl (hA (by omega)) rfl (by omega) ?_
   refine RL.loadIA rfl ag61 rfl (elem_at Ins.len hc hy) (by simp) (Ins.len _) ?_
   refine RL.move rfl ?_
   refine RL.fn0 rfl rfl rfl en45 (fun w hw => (f_rshape y s w)) rfl ?_
   rintro _ _ rfl
   refine RL.move rfl ?_
   refine RL.extract rfl rfl rfl ?_
   refine RL.extract rfl rfl rfl ?_
   refine RL.extract rfl rfl rfl ?_
   refine RL.assign rfl ?_
   refine RL.assign rfl ?_
   refine RL.assign rfl ?_
   refine RL.nil ?_
   refine X.seq ?_
   refine X.region rfl ?_
   refine RL.move rfl ?_
   refine RL.move rfl ?_
   refine RL.indexAddr rfl sl68 rfl rfl rfl rfl (by omega) ?_
   refine RL.loadO rfl sc3 rfl (ints_app_get hh) ?_
   refine RL.move rfl ?_
   refine RL.sub rfl rfl rfl (by omega) ?_
   refine RL.move rfl ?_
   refine RL.add rfl rfl rfl (by omega) ?_
   refine RL.assign rfl ?_
   refine RL.nil ?_
   refine X.seq ?_
   refine X.seq ?_
   refine X.region rfl ?_
   refine RL.move rfl ?_
   refine RL.cmp_s rfl rfl rfl rfl (fun h6 => ?_) (fun h6 => ?_)
   ·replace h6 : (_ : Int) ≥ _ := h6
    refine RL.move rfl ?_
    refine RL.move rfl ?_
    refine RL.move rfl ?_
    refine RL.cmp_s rfl rfl rfl rfl (fun h7 => ?_) (fun h7 => ?_)
    ·replace h7 : (_ : Int) ≠ _ := h7
     refine RL.pick_t rfl rfl ?_
     refine RL.nil ?_
     refine X.cond_t rfl ?_
     refine X.seq ?_
     refine X.region rfl ?_
     refine RL.move rfl ?_
     refine RL.move rfl ?_
     refine RL.assign rfl ?_
     refine RL.assign rfl ?_
     refine RL.assign rfl ?_
     refine RL.nil ?_
     refine X.ret ?_
     refine ret3 rfl ?_
     show HRes _ _ _ _
     have hcl : markN l (hts l s g) (k + 1) g = -1 := by rw [hms]; unfold mk leftP; rw [if_pos (by omega)]
     exact HRes.mk hrow rfl (by repeat (first | exact List.Sublist.refl _ | exact List.sublist_append_right _ _ | apply List.Sublist.cons | refine List.Sublist.trans ?_ (List.sublist_append_right _ _))) (heightP_wrong hl hg (by omega) (stepP_of hg hx (wrong5 (.inr (.inl (by rw [clash_stays hcl g (by omega)]; omega))))))
    replace h7 : ¬ ((_ : Int) ≠ _) := h7
    refine RL.pick_t rfl rfl ?_
    refine RL.nil ?_
    refine X.cond_f rfl ?_
    refine X.skip ?_
    refine X.region rfl ?_
    refine RL.move rfl ?_
    refine RL.assign rfl ?_
    refine RL.nil ?_
    refine X.blk ?_
    refine X.region rfl ?_
    refine RL.move rfl ?_
    refine RL.add rfl rfl rfl (by omega) ?_
    refine RL.assign rfl ?_
    refine RL.nil ?_
    refine X.hyp ⟨rfl, k + 1, by omega, _, (by repeat (first | exact List.Sublist.refl _ | exact List.nil_sublist _ | (rw [List.append_nil]; exact List.Sublist.refl _) | exact List.sublist_append_left _ _ | exact (List.sublist_append_left _ _).trans (List.sublist_append_left _ _) | apply List.Sublist.cons_cons | apply List.Sublist.cons | refine List.Sublist.trans ?_ (List.sublist_append_right _ _))), by omega, ?_, ⟨rfl, rfl, rfl, rfl, ?_, rfl, trivial⟩, rfl⟩
    · rw [hms]; unfold mk leftP; split <;> omega
    · refine congrArg (Value.int .i64) ?_
      rw [hms]; unfold mk leftP; split <;> omega
   replace h6 : ¬ ((_ : Int) ≥ _) := h6
   refine RL.move rfl ?_
   refine RL.skip rfl ?_
   refine RL.skip rfl ?_
   refine RL.skip rfl ?_
   refine RL.pick_f rfl rfl ?_
   refine RL.nil ?_
   refine X.cond_f rfl ?_
   refine X.skip ?_
   refine X.region rfl ?_
   refine RL.move rfl ?_
   refine RL.assign rfl ?_
   refine RL.nil ?_
   refine X.blk ?_
   refine X.region rfl ?_
   refine RL.move rfl ?_
   refine RL.add rfl rfl rfl (by omega) ?_
   refine RL.assign rfl ?_
   refine RL.nil ?_
   refine X.hyp ⟨rfl, k + 1, by omega, _, (by repeat (first | exact List.Sublist.refl _ | exact List.nil_sublist _ | (rw [List.append_nil]; exact List.Sublist.refl _) | exact List.sublist_append_left _ _ | exact (List.sublist_append_left _ _).trans (List.sublist_append_left _ _) | apply List.Sublist.cons_cons | apply List.Sublist.cons | refine List.Sublist.trans ?_ (List.sublist_append_right _ _))), by omega, ?_, ⟨rfl, rfl, rfl, rfl, ?_, rfl, trivial⟩, rfl⟩
   · rw [hms]; unfold mk leftP; split <;> omega
   · refine congrArg (Value.int .i64) ?_
     rw [hms]; unfold mk leftP; split <;> omega
  replace h5 : ¬ ((_ : Int) < _) := h5
  obtain rfl : k = g := by omega
  have htk := takeP_range x.op
  have hly := layP_range x.op
  have hmr := markN_range (l := l) (s := s) (m := k) k k
  rcases ho : okP x s with _ | _
  ·refine RL.nil ?_
   refine X.cond_f rfl ?_
   refine X.exit rfl ?_
   refine X.seq ?_
   refine X.region rfl ?_
   refine RL.move rfl ?_
   refine RL.move rfl ?_
   refine RL.indexAddr rfl sl56 rfl rfl (hA (by omega)) rfl (by omega) ?_
   refine RL.loadIA rfl ag61 rfl (elem_at Ins.len hc hx) (by simp) (Ins.len _) ?_
   refine RL.move rfl ?_
   refine RL.fn0 rfl rfl rfl en45 (fun w hw => (f_rshape x s w).mono (fun v L h => (by rw [ho] at h; exact h : v = .tuple #[.int .i64 (takeP x.op), .int .i64 (layP x.op), .bool false]))) rfl ?_
   rintro _ _ rfl
   refine RL.drop (L' := Lr) rfl (List.sublist_append_right _ _) ?_
   refine RL.move rfl ?_
   refine RL.extract rfl rfl rfl ?_
   refine RL.extract rfl rfl rfl ?_
   refine RL.extract rfl rfl rfl ?_
   refine RL.assign rfl ?_
   refine RL.assign rfl ?_
   refine RL.assign rfl ?_
   refine RL.nil ?_
   refine X.seq ?_
   refine X.seq ?_
   refine X.region rfl ?_
   refine RL.move rfl ?_
   refine RL.not rfl rfl ?_
   refine RL.move rfl ?_
   refine RL.skip rfl ?_
   refine RL.skip rfl ?_
   refine RL.pick_t rfl rfl ?_
   refine RL.move rfl ?_
   refine RL.skip rfl ?_
   refine RL.skip rfl ?_
   refine RL.skip rfl ?_
   refine RL.pick_t rfl rfl ?_
   refine RL.move rfl ?_
   refine RL.skip rfl ?_
   refine RL.skip rfl ?_
   refine RL.skip rfl ?_
   refine RL.skip rfl ?_
   refine RL.skip rfl ?_
   refine RL.skip rfl ?_
   refine RL.skip rfl ?_
   refine RL.skip rfl ?_
   refine RL.skip rfl ?_
   refine RL.skip rfl ?_
   refine RL.pick_t rfl rfl ?_
   refine RL.nil ?_
   refine X.cond_t rfl ?_
   refine X.seq ?_
   refine X.region rfl ?_
   refine RL.move rfl ?_
   refine RL.move rfl ?_
   refine RL.assign rfl ?_
   refine RL.assign rfl ?_
   refine RL.assign rfl ?_
   refine RL.nil ?_
   refine X.ret ?_
   refine ret3 rfl ?_
   show HRes _ _ _ _
   exact HRes.mk hrow rfl (by repeat (first | exact List.Sublist.refl _ | exact List.nil_sublist _ | (rw [List.append_nil]; exact List.Sublist.refl _) | exact List.sublist_append_left _ _ | exact (List.sublist_append_left _ _).trans (List.sublist_append_left _ _) | apply List.Sublist.cons_cons | apply List.Sublist.cons | refine List.Sublist.trans ?_ (List.sublist_append_right _ _))) (heightP_wrong hl hg (by omega) (stepP_of hg hx (wrong5 (.inl ho))))
  refine RL.nil ?_
  refine X.cond_f rfl ?_
  refine X.exit rfl ?_
  refine X.seq ?_
  refine X.region rfl ?_
  refine RL.move rfl ?_
  refine RL.move rfl ?_
  refine RL.indexAddr rfl sl56 rfl rfl (hA (by omega)) rfl (by omega) ?_
  refine RL.loadIA rfl ag61 rfl (elem_at Ins.len hc hx) (by simp) (Ins.len _) ?_
  refine RL.move rfl ?_
  refine RL.fn0 rfl rfl rfl en45 (fun w hw => (f_rshape x s w).mono (fun v L h => (by rw [ho] at h; exact h : v = .tuple #[.int .i64 (takeP x.op), .int .i64 (layP x.op), .bool true]))) rfl ?_
  rintro _ _ rfl
  refine RL.drop (L' := Lr) rfl (List.sublist_append_right _ _) ?_
  refine RL.move rfl ?_
  refine RL.extract rfl rfl rfl ?_
  refine RL.extract rfl rfl rfl ?_
  refine RL.extract rfl rfl rfl ?_
  refine RL.assign rfl ?_
  refine RL.assign rfl ?_
  refine RL.assign rfl ?_
  refine RL.nil ?_
  refine X.seq ?_
  refine X.seq ?_
  refine X.region rfl ?_
  refine RL.move rfl ?_
  refine RL.not rfl rfl ?_
  refine RL.move rfl ?_
  refine RL.move rfl ?_
  refine RL.cmp_s rfl rfl rfl rfl (fun c19 => ?_) (fun c19 => ?_)
  ·replace c19 : (_ : Int) < _ := c19
   refine RL.pick_f rfl rfl ?_
   refine RL.move rfl ?_
   refine RL.skip rfl ?_
   refine RL.skip rfl ?_
   refine RL.skip rfl ?_
   refine RL.pick_t rfl rfl ?_
   refine RL.move rfl ?_
   refine RL.skip rfl ?_
   refine RL.skip rfl ?_
   refine RL.skip rfl ?_
   refine RL.skip rfl ?_
   refine RL.skip rfl ?_
   refine RL.skip rfl ?_
   refine RL.skip rfl ?_
   refine RL.skip rfl ?_
   refine RL.skip rfl ?_
   refine RL.skip rfl ?_
   refine RL.pick_t rfl rfl ?_
   refine RL.nil ?_
   refine X.cond_t rfl ?_
   refine X.seq ?_
   refine X.region rfl ?_
   refine RL.move rfl ?_
   refine RL.move rfl ?_
   refine RL.assign rfl ?_
   refine RL.assign rfl ?_
   refine RL.assign rfl ?_
   refine RL.nil ?_
   refine X.ret ?_
   refine ret3 rfl ?_
   show HRes _ _ _ _
   first
     | exact HRes.mk hrow rfl (by repeat (first | exact List.Sublist.refl _ | exact List.nil_sublist _ | (rw [List.append_nil]; exact List.Sublist.refl _) | exact List.sublist_append_left _ _ | exact (List.sublist_append_left _ _).trans (List.sublist_append_left _ _) | apply List.Sublist.cons_cons | apply List.Sublist.cons | refine List.Sublist.trans ?_ (List.sublist_append_right _ _))) (heightP_wrong hl hg (by omega) (stepP_of hg hx (wrong5 (.inr (by omega)))))
     | exact HRes.mk hrow rfl (by repeat (first | exact List.Sublist.refl _ | exact List.nil_sublist _ | (rw [List.append_nil]; exact List.Sublist.refl _) | exact List.sublist_append_left _ _ | exact (List.sublist_append_left _ _).trans (List.sublist_append_left _ _) | apply List.Sublist.cons_cons | apply List.Sublist.cons | refine List.Sublist.trans ?_ (List.sublist_append_right _ _))) (heightP_wrong hl hg (by omega) (stepP_of hg hx (wrong16 ho (by omega) (by unfold leftP; omega))))
     | exact HRes.mk hrow rfl (by repeat (first | exact List.Sublist.refl _ | exact List.nil_sublist _ | (rw [List.append_nil]; exact List.Sublist.refl _) | exact List.sublist_append_left _ _ | exact (List.sublist_append_left _ _).trans (List.sublist_append_left _ _) | apply List.Sublist.cons_cons | apply List.Sublist.cons | refine List.Sublist.trans ?_ (List.sublist_append_right _ _))) (heightP_wrong hl hg (by omega) (stepP_of hg hx (wrong5c ho (by omega) (by unfold leftP; omega) (by omega))))
  replace c19 : ¬ ((_ : Int) < _) := c19
  refine RL.pick_f rfl rfl ?_
  refine RL.move rfl ?_
  refine RL.move rfl ?_
  refine RL.move rfl ?_
  refine RL.cmp_s rfl rfl rfl rfl (fun c20 => ?_) (fun c20 => ?_)
  ·replace c20 : (_ : Int) < _ := c20
   refine RL.pick_f rfl rfl ?_
   refine RL.move rfl ?_
   refine RL.skip rfl ?_
   refine RL.skip rfl ?_
   refine RL.skip rfl ?_
   refine RL.skip rfl ?_
   refine RL.skip rfl ?_
   refine RL.skip rfl ?_
   refine RL.skip rfl ?_
   refine RL.skip rfl ?_
   refine RL.skip rfl ?_
   refine RL.skip rfl ?_
   refine RL.pick_t rfl rfl ?_
   refine RL.nil ?_
   refine X.cond_t rfl ?_
   refine X.seq ?_
   refine X.region rfl ?_
   refine RL.move rfl ?_
   refine RL.move rfl ?_
   refine RL.assign rfl ?_
   refine RL.assign rfl ?_
   refine RL.assign rfl ?_
   refine RL.nil ?_
   refine X.ret ?_
   refine ret3 rfl ?_
   show HRes _ _ _ _
   first
     | exact HRes.mk hrow rfl (by repeat (first | exact List.Sublist.refl _ | exact List.nil_sublist _ | (rw [List.append_nil]; exact List.Sublist.refl _) | exact List.sublist_append_left _ _ | exact (List.sublist_append_left _ _).trans (List.sublist_append_left _ _) | apply List.Sublist.cons_cons | apply List.Sublist.cons | refine List.Sublist.trans ?_ (List.sublist_append_right _ _))) (heightP_wrong hl hg (by omega) (stepP_of hg hx (wrong5 (.inr (by omega)))))
     | exact HRes.mk hrow rfl (by repeat (first | exact List.Sublist.refl _ | exact List.nil_sublist _ | (rw [List.append_nil]; exact List.Sublist.refl _) | exact List.sublist_append_left _ _ | exact (List.sublist_append_left _ _).trans (List.sublist_append_left _ _) | apply List.Sublist.cons_cons | apply List.Sublist.cons | refine List.Sublist.trans ?_ (List.sublist_append_right _ _))) (heightP_wrong hl hg (by omega) (stepP_of hg hx (wrong16 ho (by omega) (by unfold leftP; omega))))
     | exact HRes.mk hrow rfl (by repeat (first | exact List.Sublist.refl _ | exact List.nil_sublist _ | (rw [List.append_nil]; exact List.Sublist.refl _) | exact List.sublist_append_left _ _ | exact (List.sublist_append_left _ _).trans (List.sublist_append_left _ _) | apply List.Sublist.cons_cons | apply List.Sublist.cons | refine List.Sublist.trans ?_ (List.sublist_append_right _ _))) (heightP_wrong hl hg (by omega) (stepP_of hg hx (wrong5c ho (by omega) (by unfold leftP; omega) (by omega))))
  replace c20 : ¬ ((_ : Int) < _) := c20
  refine RL.pick_f rfl rfl ?_
  refine RL.move rfl ?_
  refine RL.move rfl ?_
  refine RL.move rfl ?_
  refine RL.indexAddr rfl sl56 rfl rfl (hA (by omega)) rfl (by omega) ?_
  refine RL.fieldAddr rfl fd61_0 rfl ?_
  refine RL.loadI rfl sc3 rfl (CellsAt.at (elem_at Ins.len hc hx) rfl) (by simp) ?_
  refine RL.cmp_s rfl rfl rfl rfl (fun c21 => ?_) (fun c21 => ?_)
  ·replace c21 : (_ : Int) = _ := c21
   refine RL.move rfl ?_
   refine RL.move rfl ?_
   refine RL.cmp_s rfl rfl rfl rfl (fun c22 => ?_) (fun c22 => ?_)
   ·replace c22 : (_ : Int) ≠ _ := c22
    refine RL.pick_t rfl rfl ?_
    refine RL.pick_f rfl rfl ?_
    refine RL.nil ?_
    refine X.cond_t rfl ?_
    refine X.seq ?_
    refine X.region rfl ?_
    refine RL.move rfl ?_
    refine RL.move rfl ?_
    refine RL.assign rfl ?_
    refine RL.assign rfl ?_
    refine RL.assign rfl ?_
    refine RL.nil ?_
    refine X.ret ?_
    refine ret3 rfl ?_
    show HRes _ _ _ _
    first
      | exact HRes.mk hrow rfl (by repeat (first | exact List.Sublist.refl _ | exact List.nil_sublist _ | (rw [List.append_nil]; exact List.Sublist.refl _) | exact List.sublist_append_left _ _ | exact (List.sublist_append_left _ _).trans (List.sublist_append_left _ _) | apply List.Sublist.cons_cons | apply List.Sublist.cons | refine List.Sublist.trans ?_ (List.sublist_append_right _ _))) (heightP_wrong hl hg (by omega) (stepP_of hg hx (wrong5 (.inr (by omega)))))
      | exact HRes.mk hrow rfl (by repeat (first | exact List.Sublist.refl _ | exact List.nil_sublist _ | (rw [List.append_nil]; exact List.Sublist.refl _) | exact List.sublist_append_left _ _ | exact (List.sublist_append_left _ _).trans (List.sublist_append_left _ _) | apply List.Sublist.cons_cons | apply List.Sublist.cons | refine List.Sublist.trans ?_ (List.sublist_append_right _ _))) (heightP_wrong hl hg (by omega) (stepP_of hg hx (wrong16 ho (by omega) (by unfold leftP; omega))))
      | exact HRes.mk hrow rfl (by repeat (first | exact List.Sublist.refl _ | exact List.nil_sublist _ | (rw [List.append_nil]; exact List.Sublist.refl _) | exact List.sublist_append_left _ _ | exact (List.sublist_append_left _ _).trans (List.sublist_append_left _ _) | apply List.Sublist.cons_cons | apply List.Sublist.cons | refine List.Sublist.trans ?_ (List.sublist_append_right _ _))) (heightP_wrong hl hg (by omega) (stepP_of hg hx (wrong5c ho (by omega) (by unfold leftP; omega) (by omega))))
   replace c22 : ¬ ((_ : Int) ≠ _) := c22
   refine RL.pick_t rfl rfl ?_
   refine RL.pick_f rfl rfl ?_
   refine RL.nil ?_
   refine X.cond_f rfl ?_
   refine X.skip ?_
   refine X.seq ?_
   refine X.seq ?_
   refine X.region rfl ?_
   refine RL.move rfl ?_
   refine RL.move rfl ?_
   refine RL.sub rfl rfl rfl (by omega) ?_
   refine RL.move rfl ?_
   refine RL.add rfl rfl rfl (by omega) ?_
   refine RL.cmp_s rfl rfl rfl rfl (fun c23 => ?_) (fun c23 => ?_)
   ·replace c23 : (_ : Int) > _ := c23
    refine RL.nil ?_
    refine X.cond_t rfl ?_
    refine X.seq ?_
    refine X.region rfl ?_
    refine RL.move rfl ?_
    refine RL.move rfl ?_
    refine RL.assign rfl ?_
    refine RL.assign rfl ?_
    refine RL.assign rfl ?_
    refine RL.nil ?_
    refine X.ret ?_
    refine ret3 rfl ?_
    show HRes _ _ _ _
    first
      | exact HRes.mk hrow rfl (by repeat (first | exact List.Sublist.refl _ | exact List.nil_sublist _ | (rw [List.append_nil]; exact List.Sublist.refl _) | exact List.sublist_append_left _ _ | exact (List.sublist_append_left _ _).trans (List.sublist_append_left _ _) | apply List.Sublist.cons_cons | apply List.Sublist.cons | refine List.Sublist.trans ?_ (List.sublist_append_right _ _))) (heightP_wrong hl hg (by omega) (stepP_of hg hx (wrong5 (.inr (by omega)))))
      | exact HRes.mk hrow rfl (by repeat (first | exact List.Sublist.refl _ | exact List.nil_sublist _ | (rw [List.append_nil]; exact List.Sublist.refl _) | exact List.sublist_append_left _ _ | exact (List.sublist_append_left _ _).trans (List.sublist_append_left _ _) | apply List.Sublist.cons_cons | apply List.Sublist.cons | refine List.Sublist.trans ?_ (List.sublist_append_right _ _))) (heightP_wrong hl hg (by omega) (stepP_of hg hx (wrong16 ho (by omega) (by unfold leftP; omega))))
      | exact HRes.mk hrow rfl (by repeat (first | exact List.Sublist.refl _ | exact List.nil_sublist _ | (rw [List.append_nil]; exact List.Sublist.refl _) | exact List.sublist_append_left _ _ | exact (List.sublist_append_left _ _).trans (List.sublist_append_left _ _) | apply List.Sublist.cons_cons | apply List.Sublist.cons | refine List.Sublist.trans ?_ (List.sublist_append_right _ _))) (heightP_wrong hl hg (by omega) (stepP_of hg hx (wrong5c ho (by omega) (by unfold leftP; omega) (by omega))))
   replace c23 : ¬ ((_ : Int) > _) := c23
   refine RL.nil ?_
   refine X.cond_f rfl ?_
   refine X.skip ?_
   refine X.seq ?_
   refine X.seq ?_
   refine X.region rfl ?_
   refine RL.move rfl ?_
   refine RL.move rfl ?_
   refine RL.indexAddr rfl sl56 rfl rfl (hA (by omega)) rfl (by omega) ?_
   refine RL.fieldAddr rfl fd61_0 rfl ?_
   refine RL.loadI rfl sc3 rfl (CellsAt.at (elem_at Ins.len hc hx) rfl) (by simp) ?_
   refine RL.cmp_s rfl rfl rfl rfl (fun c24 => ?_) (fun c24 => ?_)
   ·replace c24 : (_ : Int) ≠ _ := c24
    refine RL.move rfl ?_
    refine RL.move rfl ?_
    refine RL.move rfl ?_
    refine RL.len rfl sl56 rfl ?_
    refine RL.sub rfl rfl rfl (by omega) ?_
    refine RL.cmp_s rfl rfl rfl rfl (fun c25 => ?_) (fun c25 => ?_)
    ·replace c25 : (_ : Int) = _ := c25
     refine RL.pick_t rfl rfl ?_
     refine RL.move rfl ?_
     refine RL.skip rfl ?_
     refine RL.skip rfl ?_
     refine RL.skip rfl ?_
     refine RL.skip rfl ?_
     refine RL.skip rfl ?_
     refine RL.skip rfl ?_
     refine RL.skip rfl ?_
     refine RL.skip rfl ?_
     refine RL.skip rfl ?_
     refine RL.skip rfl ?_
     refine RL.skip rfl ?_
     refine RL.skip rfl ?_
     refine RL.skip rfl ?_
     refine RL.skip rfl ?_
     refine RL.skip rfl ?_
     refine RL.skip rfl ?_
     refine RL.skip rfl ?_
     refine RL.skip rfl ?_
     refine RL.skip rfl ?_
     refine RL.pick_t rfl rfl ?_
     refine RL.nil ?_
     refine X.cond_t rfl ?_
     refine X.seq ?_
     refine X.region rfl ?_
     refine RL.move rfl ?_
     refine RL.move rfl ?_
     refine RL.assign rfl ?_
     refine RL.assign rfl ?_
     refine RL.assign rfl ?_
     refine RL.nil ?_
     refine X.ret ?_
     refine ret3 rfl ?_
     show HRes _ _ _ _
     first
       | exact HRes.mk hrow rfl (by repeat (first | exact List.Sublist.refl _ | exact List.nil_sublist _ | (rw [List.append_nil]; exact List.Sublist.refl _) | exact List.sublist_append_left _ _ | exact (List.sublist_append_left _ _).trans (List.sublist_append_left _ _) | apply List.Sublist.cons_cons | apply List.Sublist.cons | refine List.Sublist.trans ?_ (List.sublist_append_right _ _))) (heightP_wrong hl hg (by omega) (stepP_of hg hx (wrong5 (.inr (by omega)))))
       | exact HRes.mk hrow rfl (by repeat (first | exact List.Sublist.refl _ | exact List.nil_sublist _ | (rw [List.append_nil]; exact List.Sublist.refl _) | exact List.sublist_append_left _ _ | exact (List.sublist_append_left _ _).trans (List.sublist_append_left _ _) | apply List.Sublist.cons_cons | apply List.Sublist.cons | refine List.Sublist.trans ?_ (List.sublist_append_right _ _))) (heightP_wrong hl hg (by omega) (stepP_of hg hx (wrong16 ho (by omega) (by unfold leftP; omega))))
       | exact HRes.mk hrow rfl (by repeat (first | exact List.Sublist.refl _ | exact List.nil_sublist _ | (rw [List.append_nil]; exact List.Sublist.refl _) | exact List.sublist_append_left _ _ | exact (List.sublist_append_left _ _).trans (List.sublist_append_left _ _) | apply List.Sublist.cons_cons | apply List.Sublist.cons | refine List.Sublist.trans ?_ (List.sublist_append_right _ _))) (heightP_wrong hl hg (by omega) (stepP_of hg hx (wrong5c ho (by omega) (by unfold leftP; omega) (by omega))))
    replace c25 : ¬ ((_ : Int) = _) := c25
    refine RL.pick_t rfl rfl ?_
    refine RL.move rfl ?_
    refine RL.move rfl ?_
    refine RL.move rfl ?_
    refine RL.indexAddr rfl sl56 rfl rfl (hA (by omega)) rfl (by omega) ?_
    refine RL.fieldAddr rfl fd61_0 rfl ?_
    refine RL.loadI rfl sc3 rfl (CellsAt.at (elem_at Ins.len hc hx) rfl) (by simp) ?_
    refine RL.cmp_s rfl rfl rfl rfl (fun c26 => ?_) (fun c26 => ?_)
    ·replace c26 : (_ : Int) = _ := c26
     refine RL.move rfl ?_
     refine RL.move rfl ?_
     refine RL.move rfl ?_
     refine RL.indexAddr rfl sl56 rfl rfl (hA (by omega)) rfl (by omega) ?_
     refine RL.fieldAddr rfl fd61_1 rfl ?_
     refine RL.loadI rfl sc3 rfl (CellsAt.at (elem_at Ins.len hc hx) rfl) (by simp) ?_
     refine RL.move rfl ?_
     refine RL.len rfl sl56 rfl ?_
     refine RL.sub rfl rfl rfl (by omega) ?_
     refine RL.move rfl ?_
     refine RL.sub rfl rfl rfl (by omega) ?_
     refine RL.cmp_s rfl rfl rfl rfl (fun c27 => ?_) (fun c27 => ?_)
     ·replace c27 : (_ : Int) > _ := c27
      refine RL.pick_t rfl rfl ?_
      refine RL.pick_f rfl rfl ?_
      refine RL.nil ?_
      refine X.cond_t rfl ?_
      refine X.seq ?_
      refine X.region rfl ?_
      refine RL.move rfl ?_
      refine RL.move rfl ?_
      refine RL.assign rfl ?_
      refine RL.assign rfl ?_
      refine RL.assign rfl ?_
      refine RL.nil ?_
      refine X.ret ?_
      refine ret3 rfl ?_
      show HRes _ _ _ _
      first
        | exact HRes.mk hrow rfl (by repeat (first | exact List.Sublist.refl _ | exact List.nil_sublist _ | (rw [List.append_nil]; exact List.Sublist.refl _) | exact List.sublist_append_left _ _ | exact (List.sublist_append_left _ _).trans (List.sublist_append_left _ _) | apply List.Sublist.cons_cons | apply List.Sublist.cons | refine List.Sublist.trans ?_ (List.sublist_append_right _ _))) (heightP_wrong hl hg (by omega) (stepP_of hg hx (wrong5 (.inr (by omega)))))
        | exact HRes.mk hrow rfl (by repeat (first | exact List.Sublist.refl _ | exact List.nil_sublist _ | (rw [List.append_nil]; exact List.Sublist.refl _) | exact List.sublist_append_left _ _ | exact (List.sublist_append_left _ _).trans (List.sublist_append_left _ _) | apply List.Sublist.cons_cons | apply List.Sublist.cons | refine List.Sublist.trans ?_ (List.sublist_append_right _ _))) (heightP_wrong hl hg (by omega) (stepP_of hg hx (wrong16 ho (by omega) (by unfold leftP; omega))))
        | exact HRes.mk hrow rfl (by repeat (first | exact List.Sublist.refl _ | exact List.nil_sublist _ | (rw [List.append_nil]; exact List.Sublist.refl _) | exact List.sublist_append_left _ _ | exact (List.sublist_append_left _ _).trans (List.sublist_append_left _ _) | apply List.Sublist.cons_cons | apply List.Sublist.cons | refine List.Sublist.trans ?_ (List.sublist_append_right _ _))) (heightP_wrong hl hg (by omega) (stepP_of hg hx (wrong5c ho (by omega) (by unfold leftP; omega) (by omega))))
     replace c27 : ¬ ((_ : Int) > _) := c27
     refine RL.pick_t rfl rfl ?_
     refine RL.pick_f rfl rfl ?_
     refine RL.nil ?_
     refine X.cond_f rfl ?_
     refine X.skip ?_
     refine X.region rfl ?_
     refine RL.move rfl ?_
     refine RL.move rfl ?_
     have hst : stepP l s (hts l s k) = none := stepP_of hg hx (wrong0 ho (by omega) (by unfold leftP; omega) (by omega))
     have hn := hts_next hg hst
     refine RL.bs1I rfl rfl sl68 zt3 rfl ?_
     intro bb3 hbb3
     refine RL.app1I (Lz := []) rfl rfl sl68 el_int Try.underlying68 (by rw [List.append_nil]) rfl rfl hrow (by rw [ints_length]; omega) (n := (hts l s k ++ [markN l (hts l s k) k k - 1]).length) (by rw [ints_length]; simp) ?_
     intro A3 cp3 Lr3 hr3
     refine RL.assign rfl ?_
     refine RL.nil ?_
     refine X.blk ?_
     refine X.region rfl ?_
     refine RL.move rfl ?_
     refine RL.add rfl rfl rfl (by omega) ?_
     refine RL.assign rfl ?_
     refine RL.nil ?_
     refine X.hyp ⟨rfl, k + 1, by omega, Lr3, (by repeat (first | exact List.Sublist.refl _ | exact List.nil_sublist _ | (rw [List.append_nil]; exact List.Sublist.refl _) | exact List.sublist_append_left _ _ | exact (List.sublist_append_left _ _).trans (List.sublist_append_left _ _) | apply List.Sublist.cons_cons | apply List.Sublist.cons | refine List.Sublist.trans ?_ (List.sublist_append_right _ _))), A3, cp3, Lr3, ?_, by omega, ?_, ?_, rfl⟩
     · rw [hn]; exact hr3.irow
     · rw [hn]; simp [hg]
     · rw [hn]; exact ⟨rfl, rfl, rfl, rfl, trivial⟩
    replace c26 : ¬ ((_ : Int) = _) := c26
    refine RL.move rfl ?_
    refine RL.skip rfl ?_
    refine RL.skip rfl ?_
    refine RL.skip rfl ?_
    refine RL.skip rfl ?_
    refine RL.skip rfl ?_
    refine RL.skip rfl ?_
    refine RL.skip rfl ?_
    refine RL.skip rfl ?_
    refine RL.skip rfl ?_
    refine RL.skip rfl ?_
    refine RL.skip rfl ?_
    refine RL.pick_f rfl rfl ?_
    refine RL.pick_f rfl rfl ?_
    refine RL.nil ?_
    refine X.cond_f rfl ?_
    refine X.skip ?_
    refine X.region rfl ?_
    refine RL.move rfl ?_
    refine RL.move rfl ?_
    have hst : stepP l s (hts l s k) = none := stepP_of hg hx (wrong0 ho (by omega) (by unfold leftP; omega) (by omega))
    have hn := hts_next hg hst
    refine RL.bs1I rfl rfl sl68 zt3 rfl ?_
    intro bb3 hbb3
    refine RL.app1I (Lz := []) rfl rfl sl68 el_int Try.underlying68 (by rw [List.append_nil]) rfl rfl hrow (by rw [ints_length]; omega) (n := (hts l s k ++ [markN l (hts l s k) k k - 1]).length) (by rw [ints_length]; simp) ?_
    intro A3 cp3 Lr3 hr3
    refine RL.assign rfl ?_
    refine RL.nil ?_
    refine X.blk ?_
    refine X.region rfl ?_
    refine RL.move rfl ?_
    refine RL.add rfl rfl rfl (by omega) ?_
    refine RL.assign rfl ?_
    refine RL.nil ?_
    refine X.hyp ⟨rfl, k + 1, by omega, Lr3, (by repeat (first | exact List.Sublist.refl _ | exact List.nil_sublist _ | (rw [List.append_nil]; exact List.Sublist.refl _) | exact List.sublist_append_left _ _ | exact (List.sublist_append_left _ _).trans (List.sublist_append_left _ _) | apply List.Sublist.cons_cons | apply List.Sublist.cons | refine List.Sublist.trans ?_ (List.sublist_append_right _ _))), A3, cp3, Lr3, ?_, by omega, ?_, ?_, rfl⟩
    · rw [hn]; exact hr3.irow
    · rw [hn]; simp [hg]
    · rw [hn]; exact ⟨rfl, rfl, rfl, rfl, trivial⟩
   replace c24 : ¬ ((_ : Int) ≠ _) := c24
   refine RL.move rfl ?_
   refine RL.skip rfl ?_
   refine RL.skip rfl ?_
   refine RL.skip rfl ?_
   refine RL.skip rfl ?_
   refine RL.skip rfl ?_
   refine RL.pick_f rfl rfl ?_
   refine RL.move rfl ?_
   refine RL.move rfl ?_
   refine RL.move rfl ?_
   refine RL.indexAddr rfl sl56 rfl rfl (hA (by omega)) rfl (by omega) ?_
   refine RL.fieldAddr rfl fd61_0 rfl ?_
   refine RL.loadI rfl sc3 rfl (CellsAt.at (elem_at Ins.len hc hx) rfl) (by simp) ?_
   refine RL.cmp_s rfl rfl rfl rfl (fun c28 => ?_) (fun c28 => ?_)
   ·replace c28 : (_ : Int) = _ := c28
    refine RL.move rfl ?_
    refine RL.move rfl ?_
    refine RL.move rfl ?_
    refine RL.indexAddr rfl sl56 rfl rfl (hA (by omega)) rfl (by omega) ?_
    refine RL.fieldAddr rfl fd61_1 rfl ?_
    refine RL.loadI rfl sc3 rfl (CellsAt.at (elem_at Ins.len hc hx) rfl) (by simp) ?_
    refine RL.move rfl ?_
    refine RL.len rfl sl56 rfl ?_
    refine RL.sub rfl rfl rfl (by omega) ?_
    refine RL.move rfl ?_
    refine RL.sub rfl rfl rfl (by omega) ?_
    refine RL.cmp_s rfl rfl rfl rfl (fun c29 => ?_) (fun c29 => ?_)
    ·replace c29 : (_ : Int) > _ := c29
     refine RL.pick_t rfl rfl ?_
     refine RL.pick_f rfl rfl ?_
     refine RL.nil ?_
     refine X.cond_t rfl ?_
     refine X.seq ?_
     refine X.region rfl ?_
     refine RL.move rfl ?_
     refine RL.move rfl ?_
     refine RL.assign rfl ?_
     refine RL.assign rfl ?_
     refine RL.assign rfl ?_
     refine RL.nil ?_
     refine X.ret ?_
     refine ret3 rfl ?_
     show HRes _ _ _ _
     first
       | exact HRes.mk hrow rfl (by repeat (first | exact List.Sublist.refl _ | exact List.nil_sublist _ | (rw [List.append_nil]; exact List.Sublist.refl _) | exact List.sublist_append_left _ _ | exact (List.sublist_append_left _ _).trans (List.sublist_append_left _ _) | apply List.Sublist.cons_cons | apply List.Sublist.cons | refine List.Sublist.trans ?_ (List.sublist_append_right _ _))) (heightP_wrong hl hg (by omega) (stepP_of hg hx (wrong5 (.inr (by omega)))))
       | exact HRes.mk hrow rfl (by repeat (first | exact List.Sublist.refl _ | exact List.nil_sublist _ | (rw [List.append_nil]; exact List.Sublist.refl _) | exact List.sublist_append_left _ _ | exact (List.sublist_append_left _ _).trans (List.sublist_append_left _ _) | apply List.Sublist.cons_cons | apply List.Sublist.cons | refine List.Sublist.trans ?_ (List.sublist_append_right _ _))) (heightP_wrong hl hg (by omega) (stepP_of hg hx (wrong16 ho (by omega) (by unfold leftP; omega))))
       | exact HRes.mk hrow rfl (by repeat (first | exact List.Sublist.refl _ | exact List.nil_sublist _ | (rw [List.append_nil]; exact List.Sublist.refl _) | exact List.sublist_append_left _ _ | exact (List.sublist_append_left _ _).trans (List.sublist_append_left _ _) | apply List.Sublist.cons_cons | apply List.Sublist.cons | refine List.Sublist.trans ?_ (List.sublist_append_right _ _))) (heightP_wrong hl hg (by omega) (stepP_of hg hx (wrong5c ho (by omega) (by unfold leftP; omega) (by omega))))
    replace c29 : ¬ ((_ : Int) > _) := c29
    refine RL.pick_t rfl rfl ?_
    refine RL.pick_f rfl rfl ?_
    refine RL.nil ?_
    refine X.cond_f rfl ?_
    refine X.skip ?_
    refine X.region rfl ?_
    refine RL.move rfl ?_
    refine RL.move rfl ?_
    have hst : stepP l s (hts l s k) = none := stepP_of hg hx (wrong0 ho (by omega) (by unfold leftP; omega) (by omega))
    have hn := hts_next hg hst
    refine RL.bs1I rfl rfl sl68 zt3 rfl ?_
    intro bb3 hbb3
    refine RL.app1I (Lz := []) rfl rfl sl68 el_int Try.underlying68 (by rw [List.append_nil]) rfl rfl hrow (by rw [ints_length]; omega) (n := (hts l s k ++ [markN l (hts l s k) k k - 1]).length) (by rw [ints_length]; simp) ?_
    intro A3 cp3 Lr3 hr3
    refine RL.assign rfl ?_
    refine RL.nil ?_
    refine X.blk ?_
    refine X.region rfl ?_
    refine RL.move rfl ?_
    refine RL.add rfl rfl rfl (by omega) ?_
    refine RL.assign rfl ?_
    refine RL.nil ?_
    refine X.hyp ⟨rfl, k + 1, by omega, Lr3, (by repeat (first | exact List.Sublist.refl _ | exact List.nil_sublist _ | (rw [List.append_nil]; exact List.Sublist.refl _) | exact List.sublist_append_left _ _ | exact (List.sublist_append_left _ _).trans (List.sublist_append_left _ _) | apply List.Sublist.cons_cons | apply List.Sublist.cons | refine List.Sublist.trans ?_ (List.sublist_append_right _ _))), A3, cp3, Lr3, ?_, by omega, ?_, ?_, rfl⟩
    · rw [hn]; exact hr3.irow
    · rw [hn]; simp [hg]
    · rw [hn]; exact ⟨rfl, rfl, rfl, rfl, trivial⟩
   replace c28 : ¬ ((_ : Int) = _) := c28
   refine RL.move rfl ?_
   refine RL.skip rfl ?_
   refine RL.skip rfl ?_
   refine RL.skip rfl ?_
   refine RL.skip rfl ?_
   refine RL.skip rfl ?_
   refine RL.skip rfl ?_
   refine RL.skip rfl ?_
   refine RL.skip rfl ?_
   refine RL.skip rfl ?_
   refine RL.skip rfl ?_
   refine RL.skip rfl ?_
   refine RL.pick_f rfl rfl ?_
   refine RL.pick_f rfl rfl ?_
   refine RL.nil ?_
   refine X.cond_f rfl ?_
   refine X.skip ?_
   refine X.region rfl ?_
   refine RL.move rfl ?_
   refine RL.move rfl ?_
   have hst : stepP l s (hts l s k) = none := stepP_of hg hx (wrong0 ho (by omega) (by unfold leftP; omega) (by omega))
   have hn := hts_next hg hst
   refine RL.bs1I rfl rfl sl68 zt3 rfl ?_
   intro bb3 hbb3
   refine RL.app1I (Lz := []) rfl rfl sl68 el_int Try.underlying68 (by rw [List.append_nil]) rfl rfl hrow (by rw [ints_length]; omega) (n := (hts l s k ++ [markN l (hts l s k) k k - 1]).length) (by rw [ints_length]; simp) ?_
   intro A3 cp3 Lr3 hr3
   refine RL.assign rfl ?_
   refine RL.nil ?_
   refine X.blk ?_
   refine X.region rfl ?_
   refine RL.move rfl ?_
   refine RL.add rfl rfl rfl (by omega) ?_
   refine RL.assign rfl ?_
   refine RL.nil ?_
   refine X.hyp ⟨rfl, k + 1, by omega, Lr3, (by repeat (first | exact List.Sublist.refl _ | exact List.nil_sublist _ | (rw [List.append_nil]; exact List.Sublist.refl _) | exact List.sublist_append_left _ _ | exact (List.sublist_append_left _ _).trans (List.sublist_append_left _ _) | apply List.Sublist.cons_cons | apply List.Sublist.cons | refine List.Sublist.trans ?_ (List.sublist_append_right _ _))), A3, cp3, Lr3, ?_, by omega, ?_, ?_, rfl⟩
   · rw [hn]; exact hr3.irow
   · rw [hn]; simp [hg]
   · rw [hn]; exact ⟨rfl, rfl, rfl, rfl, trivial⟩
  replace c21 : ¬ ((_ : Int) = _) := c21
  refine RL.move rfl ?_
  refine RL.skip rfl ?_
  refine RL.skip rfl ?_
  refine RL.pick_f rfl rfl ?_
  refine RL.pick_f rfl rfl ?_
  refine RL.nil ?_
  refine X.cond_f rfl ?_
  refine X.skip ?_
  refine X.seq ?_
  refine X.seq ?_
  refine X.region rfl ?_
  refine RL.move rfl ?_
  refine RL.move rfl ?_
  refine RL.sub rfl rfl rfl (by omega) ?_
  refine RL.move rfl ?_
  refine RL.add rfl rfl rfl (by omega) ?_
  refine RL.cmp_s rfl rfl rfl rfl (fun c30 => ?_) (fun c30 => ?_)
  ·replace c30 : (_ : Int) > _ := c30
   refine RL.nil ?_
   refine X.cond_t rfl ?_
   refine X.seq ?_
   refine X.region rfl ?_
   refine RL.move rfl ?_
   refine RL.move rfl ?_
   refine RL.assign rfl ?_
   refine RL.assign rfl ?_
   refine RL.assign rfl ?_
   refine RL.nil ?_
   refine X.ret ?_
   refine ret3 rfl ?_
   show HRes _ _ _ _
   first
     | exact HRes.mk hrow rfl (by repeat (first | exact List.Sublist.refl _ | exact List.nil_sublist _ | (rw [List.append_nil]; exact List.Sublist.refl _) | exact List.sublist_append_left _ _ | exact (List.sublist_append_left _ _).trans (List.sublist_append_left _ _) | apply List.Sublist.cons_cons | apply List.Sublist.cons | refine List.Sublist.trans ?_ (List.sublist_append_right _ _))) (heightP_wrong hl hg (by omega) (stepP_of hg hx (wrong5 (.inr (by omega)))))
     | exact HRes.mk hrow rfl (by repeat (first | exact List.Sublist.refl _ | exact List.nil_sublist _ | (rw [List.append_nil]; exact List.Sublist.refl _) | exact List.sublist_append_left _ _ | exact (List.sublist_append_left _ _).trans (List.sublist_append_left _ _) | apply List.Sublist.cons_cons | apply List.Sublist.cons | refine List.Sublist.trans ?_ (List.sublist_append_right _ _))) (heightP_wrong hl hg (by omega) (stepP_of hg hx (wrong16 ho (by omega) (by unfold leftP; omega))))
     | exact HRes.mk hrow rfl (by repeat (first | exact List.Sublist.refl _ | exact List.nil_sublist _ | (rw [List.append_nil]; exact List.Sublist.refl _) | exact List.sublist_append_left _ _ | exact (List.sublist_append_left _ _).trans (List.sublist_append_left _ _) | apply List.Sublist.cons_cons | apply List.Sublist.cons | refine List.Sublist.trans ?_ (List.sublist_append_right _ _))) (heightP_wrong hl hg (by omega) (stepP_of hg hx (wrong5c ho (by omega) (by unfold leftP; omega) (by omega))))
  replace c30 : ¬ ((_ : Int) > _) := c30
  refine RL.nil ?_
  refine X.cond_f rfl ?_
  refine X.skip ?_
  refine X.seq ?_
  refine X.seq ?_
  refine X.region rfl ?_
  refine RL.move rfl ?_
  refine RL.move rfl ?_
  refine RL.indexAddr rfl sl56 rfl rfl (hA (by omega)) rfl (by omega) ?_
  refine RL.fieldAddr rfl fd61_0 rfl ?_
  refine RL.loadI rfl sc3 rfl (CellsAt.at (elem_at Ins.len hc hx) rfl) (by simp) ?_
  refine RL.cmp_s rfl rfl rfl rfl (fun c31 => ?_) (fun c31 => ?_)
  ·replace c31 : (_ : Int) ≠ _ := c31
   refine RL.move rfl ?_
   refine RL.move rfl ?_
   refine RL.move rfl ?_
   refine RL.len rfl sl56 rfl ?_
   refine RL.sub rfl rfl rfl (by omega) ?_
   refine RL.cmp_s rfl rfl rfl rfl (fun c32 => ?_) (fun c32 => ?_)
   ·replace c32 : (_ : Int) = _ := c32
    refine RL.pick_t rfl rfl ?_
    refine RL.move rfl ?_
    refine RL.skip rfl ?_
    refine RL.skip rfl ?_
    refine RL.skip rfl ?_
    refine RL.skip rfl ?_
    refine RL.skip rfl ?_
    refine RL.skip rfl ?_
    refine RL.skip rfl ?_
    refine RL.skip rfl ?_
    refine RL.skip rfl ?_
    refine RL.skip rfl ?_
    refine RL.skip rfl ?_
    refine RL.skip rfl ?_
    refine RL.skip rfl ?_
    refine RL.skip rfl ?_
    refine RL.skip rfl ?_
    refine RL.skip rfl ?_
    refine RL.skip rfl ?_
    refine RL.skip rfl ?_
    refine RL.skip rfl ?_
    refine RL.pick_t rfl rfl ?_
    refine RL.nil ?_
    refine X.cond_t rfl ?_
    refine X.seq ?_
    refine X.region rfl ?_
    refine RL.move rfl ?_
    refine RL.move rfl ?_
    refine RL.assign rfl ?_
    refine RL.assign rfl ?_
    refine RL.assign rfl ?_
    refine RL.nil ?_
    refine X.ret ?_
    refine ret3 rfl ?_
    show HRes _ _ _ _
    first
      | exact HRes.mk hrow rfl (by repeat (first | exact List.Sublist.refl _ | exact List.nil_sublist _ | (rw [List.append_nil]; exact List.Sublist.refl _) | exact List.sublist_append_left _ _ | exact (List.sublist_append_left _ _).trans (List.sublist_append_left _ _) | apply List.Sublist.cons_cons | apply List.Sublist.cons | refine List.Sublist.trans ?_ (List.sublist_append_right _ _))) (heightP_wrong hl hg (by omega) (stepP_of hg hx (wrong5 (.inr (by omega)))))
      | exact HRes.mk hrow rfl (by repeat (first | exact List.Sublist.refl _ | exact List.nil_sublist _ | (rw [List.append_nil]; exact List.Sublist.refl _) | exact List.sublist_append_left _ _ | exact (List.sublist_append_left _ _).trans (List.sublist_append_left _ _) | apply List.Sublist.cons_cons | apply List.Sublist.cons | refine List.Sublist.trans ?_ (List.sublist_append_right _ _))) (heightP_wrong hl hg (by omega) (stepP_of hg hx (wrong16 ho (by omega) (by unfold leftP; omega))))
      | exact HRes.mk hrow rfl (by repeat (first | exact List.Sublist.refl _ | exact List.nil_sublist _ | (rw [List.append_nil]; exact List.Sublist.refl _) | exact List.sublist_append_left _ _ | exact (List.sublist_append_left _ _).trans (List.sublist_append_left _ _) | apply List.Sublist.cons_cons | apply List.Sublist.cons | refine List.Sublist.trans ?_ (List.sublist_append_right _ _))) (heightP_wrong hl hg (by omega) (stepP_of hg hx (wrong5c ho (by omega) (by unfold leftP; omega) (by omega))))
   replace c32 : ¬ ((_ : Int) = _) := c32
   refine RL.pick_t rfl rfl ?_
   refine RL.move rfl ?_
   refine RL.move rfl ?_
   refine RL.move rfl ?_
   refine RL.indexAddr rfl sl56 rfl rfl (hA (by omega)) rfl (by omega) ?_
   refine RL.fieldAddr rfl fd61_0 rfl ?_
   refine RL.loadI rfl sc3 rfl (CellsAt.at (elem_at Ins.len hc hx) rfl) (by simp) ?_
   refine RL.cmp_s rfl rfl rfl rfl (fun c33 => ?_) (fun c33 => ?_)
   ·replace c33 : (_ : Int) = _ := c33
    refine RL.move rfl ?_
    refine RL.move rfl ?_
    refine RL.move rfl ?_
    refine RL.indexAddr rfl sl56 rfl rfl (hA (by omega)) rfl (by omega) ?_
    refine RL.fieldAddr rfl fd61_1 rfl ?_
    refine RL.loadI rfl sc3 rfl (CellsAt.at (elem_at Ins.len hc hx) rfl) (by simp) ?_
    refine RL.move rfl ?_
    refine RL.len rfl sl56 rfl ?_
    refine RL.sub rfl rfl rfl (by omega) ?_
    refine RL.move rfl ?_
    refine RL.sub rfl rfl rfl (by omega) ?_
    refine RL.cmp_s rfl rfl rfl rfl (fun c34 => ?_) (fun c34 => ?_)
    ·replace c34 : (_ : Int) > _ := c34
     refine RL.pick_t rfl rfl ?_
     refine RL.pick_f rfl rfl ?_
     refine RL.nil ?_
     refine X.cond_t rfl ?_
     refine X.seq ?_
     refine X.region rfl ?_
     refine RL.move rfl ?_
     refine RL.move rfl ?_
     refine RL.assign rfl ?_
     refine RL.assign rfl ?_
     refine RL.assign rfl ?_
     refine RL.nil ?_
     refine X.ret ?_
     refine ret3 rfl ?_
     show HRes _ _ _ _
     first
       | exact HRes.mk hrow rfl (by repeat (first | exact List.Sublist.refl _ | exact List.nil_sublist _ | (rw [List.append_nil]; exact List.Sublist.refl _) | exact List.sublist_append_left _ _ | exact (List.sublist_append_left _ _).trans (List.sublist_append_left _ _) | apply List.Sublist.cons_cons | apply List.Sublist.cons | refine List.Sublist.trans ?_ (List.sublist_append_right _ _))) (heightP_wrong hl hg (by omega) (stepP_of hg hx (wrong5 (.inr (by omega)))))
       | exact HRes.mk hrow rfl (by repeat (first | exact List.Sublist.refl _ | exact List.nil_sublist _ | (rw [List.append_nil]; exact List.Sublist.refl _) | exact List.sublist_append_left _ _ | exact (List.sublist_append_left _ _).trans (List.sublist_append_left _ _) | apply List.Sublist.cons_cons | apply List.Sublist.cons | refine List.Sublist.trans ?_ (List.sublist_append_right _ _))) (heightP_wrong hl hg (by omega) (stepP_of hg hx (wrong16 ho (by omega) (by unfold leftP; omega))))
       | exact HRes.mk hrow rfl (by repeat (first | exact List.Sublist.refl _ | exact List.nil_sublist _ | (rw [List.append_nil]; exact List.Sublist.refl _) | exact List.sublist_append_left _ _ | exact (List.sublist_append_left _ _).trans (List.sublist_append_left _ _) | apply List.Sublist.cons_cons | apply List.Sublist.cons | refine List.Sublist.trans ?_ (List.sublist_append_right _ _))) (heightP_wrong hl hg (by omega) (stepP_of hg hx (wrong5c ho (by omega) (by unfold leftP; omega) (by omega))))
    replace c34 : ¬ ((_ : Int) > _) := c34
    refine RL.pick_t rfl rfl ?_
    refine RL.pick_f rfl rfl ?_
    refine RL.nil ?_
    refine X.cond_f rfl ?_
    refine X.skip ?_
    refine X.region rfl ?_
    refine RL.move rfl ?_
    refine RL.move rfl ?_
    have hst : stepP l s (hts l s k) = none := stepP_of hg hx (wrong0 ho (by omega) (by unfold leftP; omega) (by omega))
    have hn := hts_next hg hst
    refine RL.bs1I rfl rfl sl68 zt3 rfl ?_
    intro bb3 hbb3
    refine RL.app1I (Lz := []) rfl rfl sl68 el_int Try.underlying68 (by rw [List.append_nil]) rfl rfl hrow (by rw [ints_length]; omega) (n := (hts l s k ++ [markN l (hts l s k) k k - 1]).length) (by rw [ints_length]; simp) ?_
    intro A3 cp3 Lr3 hr3
    refine RL.assign rfl ?_
    refine RL.nil ?_
    refine X.blk ?_
    refine X.region rfl ?_
    refine RL.move rfl ?_
    refine RL.add rfl rfl rfl (by omega) ?_
    refine RL.assign rfl ?_
    refine RL.nil ?_
    refine X.hyp ⟨rfl, k + 1, by omega, Lr3, (by repeat (first | exact List.Sublist.refl _ | exact List.nil_sublist _ | (rw [List.append_nil]; exact List.Sublist.refl _) | exact List.sublist_append_left _ _ | exact (List.sublist_append_left _ _).trans (List.sublist_append_left _ _) | apply List.Sublist.cons_cons | apply List.Sublist.cons | refine List.Sublist.trans ?_ (List.sublist_append_right _ _))), A3, cp3, Lr3, ?_, by omega, ?_, ?_, rfl⟩
    · rw [hn]; exact hr3.irow
    · rw [hn]; simp [hg]
    · rw [hn]; exact ⟨rfl, rfl, rfl, rfl, trivial⟩
   replace c33 : ¬ ((_ : Int) = _) := c33
   refine RL.move rfl ?_
   refine RL.skip rfl ?_
   refine RL.skip rfl ?_
   refine RL.skip rfl ?_
   refine RL.skip rfl ?_
   refine RL.skip rfl ?_
   refine RL.skip rfl ?_
   refine RL.skip rfl ?_
   refine RL.skip rfl ?_
   refine RL.skip rfl ?_
   refine RL.skip rfl ?_
   refine RL.skip rfl ?_
   refine RL.pick_f rfl rfl ?_
   refine RL.pick_f rfl rfl ?_
   refine RL.nil ?_
   refine X.cond_f rfl ?_
   refine X.skip ?_
   refine X.region rfl ?_
   refine RL.move rfl ?_
   refine RL.move rfl ?_
   have hst : stepP l s (hts l s k) = none := stepP_of hg hx (wrong0 ho (by omega) (by unfold leftP; omega) (by omega))
   have hn := hts_next hg hst
   refine RL.bs1I rfl rfl sl68 zt3 rfl ?_
   intro bb3 hbb3
   refine RL.app1I (Lz := []) rfl rfl sl68 el_int Try.underlying68 (by rw [List.append_nil]) rfl rfl hrow (by rw [ints_length]; omega) (n := (hts l s k ++ [markN l (hts l s k) k k - 1]).length) (by rw [ints_length]; simp) ?_
   intro A3 cp3 Lr3 hr3
   refine RL.assign rfl ?_
   refine RL.nil ?_
   refine X.blk ?_
   refine X.region rfl ?_
   refine RL.move rfl ?_
   refine RL.add rfl rfl rfl (by omega) ?_
   refine RL.assign rfl ?_
   refine RL.nil ?_
   refine X.hyp ⟨rfl, k + 1, by omega, Lr3, (by repeat (first | exact List.Sublist.refl _ | exact List.nil_sublist _ | (rw [List.append_nil]; exact List.Sublist.refl _) | exact List.sublist_append_left _ _ | exact (List.sublist_append_left _ _).trans (List.sublist_append_left _ _) | apply List.Sublist.cons_cons | apply List.Sublist.cons | refine List.Sublist.trans ?_ (List.sublist_append_right _ _))), A3, cp3, Lr3, ?_, by omega, ?_, ?_, rfl⟩
   · rw [hn]; exact hr3.irow
   · rw [hn]; simp [hg]
   · rw [hn]; exact ⟨rfl, rfl, rfl, rfl, trivial⟩
  replace c31 : ¬ ((_ : Int) ≠ _) := c31
  refine RL.move rfl ?_
  refine RL.skip rfl ?_
  refine RL.skip rfl ?_
  refine RL.skip rfl ?_
  refine RL.skip rfl ?_
  refine RL.skip rfl ?_
  refine RL.pick_f rfl rfl ?_
  refine RL.move rfl ?_
  refine RL.move rfl ?_
  refine RL.move rfl ?_
  refine RL.indexAddr rfl sl56 rfl rfl (hA (by omega)) rfl (by omega) ?_
  refine RL.fieldAddr rfl fd61_0 rfl ?_
  refine RL.loadI rfl sc3 rfl (CellsAt.at (elem_at Ins.len hc hx) rfl) (by simp) ?_
  refine RL.cmp_s rfl rfl rfl rfl (fun c35 => ?_) (fun c35 => ?_)
  ·replace c35 : (_ : Int) = _ := c35
   refine RL.move rfl ?_
   refine RL.move rfl ?_
   refine RL.move rfl ?_
   refine RL.indexAddr rfl sl56 rfl rfl (hA (by omega)) rfl (by omega) ?_
   refine RL.fieldAddr rfl fd61_1 rfl ?_
   refine RL.loadI rfl sc3 rfl (CellsAt.at (elem_at Ins.len hc hx) rfl) (by simp) ?_
   refine RL.move rfl ?_
   refine RL.len rfl sl56 rfl ?_
   refine RL.sub rfl rfl rfl (by omega) ?_
   refine RL.move rfl ?_
   refine RL.sub rfl rfl rfl (by omega) ?_
   refine RL.cmp_s rfl rfl rfl rfl (fun c36 => ?_) (fun c36 => ?_)
   ·replace c36 : (_ : Int) > _ := c36
    refine RL.pick_t rfl rfl ?_
    refine RL.pick_f rfl rfl ?_
    refine RL.nil ?_
    refine X.cond_t rfl ?_
    refine X.seq ?_
    refine X.region rfl ?_
    refine RL.move rfl ?_
    refine RL.move rfl ?_
    refine RL.assign rfl ?_
    refine RL.assign rfl ?_
    refine RL.assign rfl ?_
    refine RL.nil ?_
    refine X.ret ?_
    refine ret3 rfl ?_
    show HRes _ _ _ _
    first
      | exact HRes.mk hrow rfl (by repeat (first | exact List.Sublist.refl _ | exact List.nil_sublist _ | (rw [List.append_nil]; exact List.Sublist.refl _) | exact List.sublist_append_left _ _ | exact (List.sublist_append_left _ _).trans (List.sublist_append_left _ _) | apply List.Sublist.cons_cons | apply List.Sublist.cons | refine List.Sublist.trans ?_ (List.sublist_append_right _ _))) (heightP_wrong hl hg (by omega) (stepP_of hg hx (wrong5 (.inr (by omega)))))
      | exact HRes.mk hrow rfl (by repeat (first | exact List.Sublist.refl _ | exact List.nil_sublist _ | (rw [List.append_nil]; exact List.Sublist.refl _) | exact List.sublist_append_left _ _ | exact (List.sublist_append_left _ _).trans (List.sublist_append_left _ _) | apply List.Sublist.cons_cons | apply List.Sublist.cons | refine List.Sublist.trans ?_ (List.sublist_append_right _ _))) (heightP_wrong hl hg (by omega) (stepP_of hg hx (wrong16 ho (by omega) (by unfold leftP; omega))))
      | exact HRes.mk hrow rfl (by repeat (first | exact List.Sublist.refl _ | exact List.nil_sublist _ | (rw [List.append_nil]; exact List.Sublist.refl _) | exact List.sublist_append_left _ _ | exact (List.sublist_append_left _ _).trans (List.sublist_append_left _ _) | apply List.Sublist.cons_cons | apply List.Sublist.cons | refine List.Sublist.trans ?_ (List.sublist_append_right _ _))) (heightP_wrong hl hg (by omega) (stepP_of hg hx (wrong5c ho (by omega) (by unfold leftP; omega) (by omega))))
   replace c36 : ¬ ((_ : Int) > _) := c36
   refine RL.pick_t rfl rfl ?_
   refine RL.pick_f rfl rfl ?_
   refine RL.nil ?_
   refine X.cond_f rfl ?_
   refine X.skip ?_
   refine X.region rfl ?_
   refine RL.move rfl ?_
   refine RL.move rfl ?_
   have hst : stepP l s (hts l s k) = none := stepP_of hg hx (wrong0 ho (by omega) (by unfold leftP; omega) (by omega))
   have hn := hts_next hg hst
   refine RL.bs1I rfl rfl sl68 zt3 rfl ?_
   intro bb3 hbb3
   refine RL.app1I (Lz := []) rfl rfl sl68 el_int Try.underlying68 (by rw [List.append_nil]) rfl rfl hrow (by rw [ints_length]; omega) (n := (hts l s k ++ [markN l (hts l s k) k k - 1]).length) (by rw [ints_length]; simp) ?_
   intro A3 cp3 Lr3 hr3
   refine RL.assign rfl ?_
   refine RL.nil ?_
   refine X.blk ?_
   refine X.region rfl ?_
   refine RL.move rfl ?_
   refine RL.add rfl rfl rfl (by omega) ?_
   refine RL.assign rfl ?_
   refine RL.nil ?_
   refine X.hyp ⟨rfl, k + 1, by omega, Lr3, (by repeat (first | exact List.Sublist.refl _ | exact List.nil_sublist _ | (rw [List.append_nil]; exact List.Sublist.refl _) | exact List.sublist_append_left _ _ | exact (List.sublist_append_left _ _).trans (List.sublist_append_left _ _) | apply List.Sublist.cons_cons | apply List.Sublist.cons | refine List.Sublist.trans ?_ (List.sublist_append_right _ _))), A3, cp3, Lr3, ?_, by omega, ?_, ?_, rfl⟩
   · rw [hn]; exact hr3.irow
   · rw [hn]; simp [hg]
   · rw [hn]; exact ⟨rfl, rfl, rfl, rfl, trivial⟩
  replace c35 : ¬ ((_ : Int) = _) := c35
  refine RL.move rfl ?_
  refine RL.skip rfl ?_
  refine RL.skip rfl ?_
  refine RL.skip rfl ?_
  refine RL.skip rfl ?_
  refine RL.skip rfl ?_
  refine RL.skip rfl ?_
  refine RL.skip rfl ?_
  refine RL.skip rfl ?_
  refine RL.skip rfl ?_
  refine RL.skip rfl ?_
  refine RL.skip rfl ?_
  refine RL.pick_f rfl rfl ?_
  refine RL.pick_f rfl rfl ?_
  refine RL.nil ?_
  refine X.cond_f rfl ?_
  refine X.skip ?_
  refine X.region rfl ?_
  refine RL.move rfl ?_
  refine RL.move rfl ?_
  have hst : stepP l s (hts l s k) = none := stepP_of hg hx (wrong0 ho (by omega) (by unfold leftP; omega) (by omega))
  have hn := hts_next hg hst
  refine RL.bs1I rfl rfl sl68 zt3 rfl ?_
  intro bb3 hbb3
  refine RL.app1I (Lz := []) rfl rfl sl68 el_int Try.underlying68 (by rw [List.append_nil]) rfl rfl hrow (by rw [ints_length]; omega) (n := (hts l s k ++ [markN l (hts l s k) k k - 1]).length) (by rw [ints_length]; simp) ?_
  intro A3 cp3 Lr3 hr3
  refine RL.assign rfl ?_
  refine RL.nil ?_
  refine X.blk ?_
  refine X.region rfl ?_
  refine RL.move rfl ?_
  refine RL.add rfl rfl rfl (by omega) ?_
  refine RL.assign rfl ?_
  refine RL.nil ?_
  refine X.hyp ⟨rfl, k + 1, by omega, Lr3, (by repeat (first | exact List.Sublist.refl _ | exact List.nil_sublist _ | (rw [List.append_nil]; exact List.Sublist.refl _) | exact List.sublist_append_left _ _ | exact (List.sublist_append_left _ _).trans (List.sublist_append_left _ _) | apply List.Sublist.cons_cons | apply List.Sublist.cons | refine List.Sublist.trans ?_ (List.sublist_append_right _ _))), A3, cp3, Lr3, ?_, by omega, ?_, ?_, rfl⟩
  · rw [hn]; exact hr3.irow
  · rw [hn]; simp [hg]
  · rw [hn]; exact ⟨rfl, rfl, rfl, rfl, trivial⟩
 replace h3 : ¬ ((_ : Int) < _) := h3
 obtain rfl : g = l.length := by omega
 refine RL.nil ?_
 refine X.cond_f rfl ?_
 refine X.exit rfl ?_
 refine X.seq ?_
 refine X.region rfl ?_
 refine RL.move rfl ?_
 refine RL.assign rfl ?_
 refine RL.assign rfl ?_
 refine RL.assign rfl ?_
 refine RL.nil ?_
 refine X.ret ?_
 refine ret3 rfl ?_
 show HRes _ _ _ _
 exact HRes.mk hrow rfl (List.Sublist.refl _) (heightP_ok hl hg)
end Go.Proofs.Ytdnnnbjmjjdcfaa

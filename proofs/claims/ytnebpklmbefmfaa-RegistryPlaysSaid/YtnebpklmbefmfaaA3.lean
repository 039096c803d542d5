/- The heights: as the document reckons them. The walk over a row, whatever is done at each step. -/
import Derived.Test.YtnebpklmbefmfaaA1
set_option linter.unusedVariables false
set_option linter.unusedSimpArgs false
namespace Go.Proofs.Ytnebpklmbefmfaa
open Go.RowKit
attribute [local irreducible] X RL W Ctr
set_option maxHeartbeats 1000000 in
theorem f_height (l : List Ins) (hlen : l.length ≤ 1000) (A : Option Addr) (c : Nat) (w : World) (hrd : Rd w A (icells l)) (s : Int) :
    Ctr Try.prog 51 [.slice A l.length c, .int .i64 s] w [] fun v L => HRes l s v L := by
 have hrd1 := hrd
 obtain ⟨bb, oo, hA0, hc⟩ := hrd
 have hA : 0 < l.length → A = some ⟨bb, oo, none⟩ := fun h => hA0 (by rw [ecells_len Ins.len]; omega)
 refine Ctr.intro0 (n := 156) Try.func51 rfl Try.ntmps51 (Nat.le_of_ble_eq_true rfl) ?_
 refine X.seq ?_
 refine X.region rfl ?_
 refine RL.assign rfl ?_
 refine RL.assign rfl ?_
 refine RL.assign rfl ?_
 refine RL.nil ?_
 refine X.seq ?_
 refine X.seq ?_
 refine X.region rfl ?_
 refine RL.move rfl ?_
 refine RL.len rfl sl78 rfl ?_
 refine RL.cmp_s rfl rfl rfl rfl (fun h => ?_) (fun h => ?_)
 ·replace h : (_ : Int) = _ := h
  refine RL.move rfl ?_
  refine RL.skip rfl ?_
  refine RL.skip rfl ?_
  refine RL.skip rfl ?_
  refine RL.pick_t rfl rfl ?_
  refine RL.nil ?_
  refine X.cond_t rfl ?_
  refine X.seq ?_
  refine X.region rfl ?_
  refine RL.assign rfl ?_
  refine RL.assign rfl ?_
  refine RL.assign rfl ?_
  refine RL.nil ?_
  refine X.ret ?_
  refine ret3 rfl ?_
  show HRes _ _ _ _
  exact HRes.mk Row.nil rfl (List.nil_sublist _) (heightP_len (by omega))
 replace h : ¬ ((_ : Int) = _) := h
 refine RL.move rfl ?_
 refine RL.move rfl ?_
 refine RL.len rfl sl78 rfl ?_
 refine RL.cmp_s rfl rfl rfl rfl (fun h2 => ?_) (fun h2 => ?_)
 ·replace h2 : (_ : Int) > _ := h2
  refine RL.pick_f rfl rfl ?_
  refine RL.nil ?_
  refine X.cond_t rfl ?_
  refine X.seq ?_
  refine X.region rfl ?_
  refine RL.assign rfl ?_
  refine RL.assign rfl ?_
  refine RL.assign rfl ?_
  refine RL.nil ?_
  refine X.ret ?_
  refine ret3 rfl ?_
  show HRes _ _ _ _
  exact HRes.mk Row.nil rfl (List.nil_sublist _) (heightP_len (by omega))
 replace h2 : ¬ ((_ : Int) > _) := h2
 have hl : ¬ (l.length < 1 ∨ 32 < l.length) := by omega
 refine RL.pick_f rfl rfl ?_
 refine RL.nil ?_
 refine X.cond_f rfl ?_
 refine X.skip ?_
 refine X.seq ?_
 refine X.region rfl ?_
 refine RL.assign rfl ?_
 refine RL.nil ?_
 refine X.seq ?_
 refine X.seq ?_
 refine X.region rfl ?_
 refine RL.assign rfl ?_
 refine RL.nil ?_
 refine X.block ?_
 refine X.loop (γ := Nat) (fun g ρ L => ∃ A2 : Option Addr, ∃ cp : Nat, ∃ Lr : List Ent, (Row 3 1 (.slice A2 (hts l s g).length cp) (ints (hts l s g)) Lr) ∧ (g ≤ l.length) ∧ ((hts l s g).length = g) ∧ Has ρ [(0, .slice A l.length c), (1, .int .i64 s), (7, .slice A2 (hts l s g).length cp), (8, .int .i64 g)] ∧ L = Lr) (fun g => l.length - g) (0) ⟨_, (by repeat (first | exact sb0 _ | exact sb1 _ | (rw [List.append_nil]; exact sb0 _) | exact sb2 _ _ | exact sb3 _ _ _ | apply sb4 | apply sb5 | apply sb6)), none, 0, [], Row.nil, Nat.zero_le _, rfl, ⟨rfl, rfl, rfl, rfl, trivial⟩, rfl⟩ ?_
 rintro g _ _ ⟨A2, cp, Lr, hrow, hgl, hg, hρ, rfl⟩
 obtain ⟨base, rfl⟩ := hρ.base
 clear hρ
 rename_i Lr
 refine X.seq ?_
 refine X.seq ?_
 refine X.region rfl ?_
 refine RL.move rfl ?_
 refine RL.move rfl ?_
 refine RL.len rfl sl78 rfl ?_
 refine RL.cmp_s rfl rfl rfl rfl (fun h3 => ?_) (fun h3 => ?_)
 ·replace h3 : (_ : Int) < _ := h3
  obtain ⟨x, hx⟩ : ∃ x, l[g]? = some x := ⟨_, List.getElem?_eq_getElem (by omega)⟩
  refine RL.nil ?_
  refine X.cond_t rfl ?_
  refine X.skip ?_
  refine X.seq ?_
  refine X.block ?_
  refine X.seq ?_
  refine X.region rfl ?_
  refine RL.assign rfl ?_
  refine RL.nil ?_
  refine X.seq ?_
  refine X.seq ?_
  refine X.region rfl ?_
  refine RL.move rfl ?_
  refine RL.cmp_s rfl rfl rfl rfl (fun h4 => ?_) (fun h4 => ?_)
  ·replace h4 : (_ : Int) = _ := h4
   refine RL.nil ?_
   refine X.cond_t rfl ?_
   refine X.region rfl ?_
   refine RL.assign rfl ?_
   refine RL.nil ?_
   refine X.seq ?_
   refine X.seq ?_
   refine X.region rfl ?_
   refine RL.assign rfl ?_
   refine RL.nil ?_
   refine X.block ?_
   refine X.loop (γ := Nat) (fun k ρ L => k ≤ g ∧ 0 ≤ markN l (hts l s g) k g ∧ Has ρ [(0, .slice A l.length c), (1, .int .i64 s), (7, .slice A2 (hts l s g).length cp), (8, .int .i64 g), (9, .int .i64 (markN l (hts l s g) k g - 1)), (10, .int .i64 k)] ∧ L = Lr) (fun k => g - k) 0 ⟨_, List.Sublist.refl _, Nat.zero_le _, by simp only [markN]; split <;> omega, ⟨rfl, rfl, rfl, rfl, congrArg (Value.int .i64) (show (0 : Int) = markN l (hts l s g) 0 g - 1 by simp [markN, show g = 0 by omega]), rfl, trivial⟩, rfl⟩ ?_
   rintro k _ Lr ⟨hk, hm, hρ, rfl⟩
   obtain ⟨base, rfl⟩ := hρ.base
   clear hρ
   refine X.seq ?_
   refine X.seq ?_
   refine X.region rfl ?_
   refine RL.move rfl ?_
   refine RL.move rfl ?_
   refine RL.cmp_s rfl rfl rfl rfl (fun h5 => ?_) (fun h5 => ?_)
   ·replace h5 : (_ : Int) < _ := h5
    obtain ⟨y, hy⟩ : ∃ y, l[k]? = some y := ⟨_, List.getElem?_eq_getElem (by omega)⟩
    obtain ⟨hv, hh⟩ : ∃ hv, (hts l s g)[k]? = some hv := ⟨_, List.getElem?_eq_getElem (by omega)⟩
    have hlr := left_range hh hy
    have hlf : leftP y hv = hv - takeP y.op + layP y.op := rfl
    have htk := takeP_range y.op
    have hly := layP_range y.op
    have hmr := markN_range (l := l) (s := s) (m := g) k g
    have hms := markN_step (t := g) hy hh
    rcases hgo : goesP y k g with _ | _
    ·rw [hgo, if_neg (by simp)] at hms
     refine RL.nil ?_
     refine X.cond_t rfl ?_
     refine X.skip ?_
     refine X.seq ?_
     refine X.block ?_
     refine X.seq ?_
     refine X.seq ?_
     refine X.region rfl ?_
     refine RL.move rfl ?_
     refine RL.move rfl ?_
     refine RL.move rfl ?_
     refine RL.fn0 rfl rfl rfl en56 (fun w hw => (f_goes l hlen A c w (hrd1.st0 hw) k g y hy (by omega)).mono (fun v L h => (by rw [hgo] at h; exact h : v = .bool false))) rfl ?_
     rintro _ _ rfl
     refine RL.not rfl rfl ?_
     refine RL.nil ?_
     refine X.cond_t rfl ?_
     refine X.exit rfl ?_
     refine X.region rfl ?_
     refine RL.move rfl ?_
     refine RL.add rfl rfl rfl (by omega) ?_
     refine RL.assign rfl ?_
     refine RL.nil ?_
     refine X.hyp ⟨rfl, k + 1, by omega, Lr, (by repeat (first | exact sb0 _ | exact sb1 _ | (rw [List.append_nil]; exact sb0 _) | exact sb2 _ _ | exact sb3 _ _ _ | apply sb4 | apply sb5 | apply sb6)), by omega, by rw [hms]; exact hm, ⟨rfl, rfl, rfl, rfl, by rw [hms]; rfl, rfl, trivial⟩, rfl⟩
    rw [hgo, if_pos rfl] at hms
    obtain ⟨b, junk, rfl, rfl⟩ := hrow.open (by omega)
    refine RL.nil ?_
    refine X.cond_t rfl ?_
    refine X.skip ?_
    refine X.seq ?_
    refine X.block ?_
    refine X.seq ?_
    refine X.seq ?_
    refine X.region rfl ?_
    refine RL.move rfl ?_
    refine RL.move rfl ?_
    refine RL.move rfl ?_
    refine RL.fn0 rfl rfl rfl en56 (fun w hw => (f_goes l hlen A c w (hrd1.st0 hw) k g y hy (by omega)).mono (fun v L h => (by rw [hgo] at h; exact h : v = .bool true))) rfl ?_
    rintro _ _ rfl
    refine RL.not rfl rfl ?_
    refine RL.nil ?_
    refine X.cond_f rfl ?_
    refine X.skip ?_
    refine X.seq ?_
    refine X.region rfl ?_
    refine RL.move rfl ?_
    refine RL.move rfl ?_
    refine RL.indexAddr rfl sl78 rfl rfl (hA (by omega)) rfl (by omega) ?_
    refine RL.loadIA rfl ag77 rfl (elem_at Ins.len hc hy) (by simp) (Ins.len _) ?_
    refine RL.move rfl ?_
    refine RL.fn0 rfl rfl rfl en57 (fun w hw => (f_rshape y s w)) rfl ?_
    rintro _ _ rfl
    refine RL.move rfl ?_
    refine RL.extract rfl rfl rfl ?_
    refine RL.extract rfl rfl rfl ?_
    refine RL.extract rfl rfl rfl ?_
    refine RL.assign rfl ?_
    refine RL.assign rfl ?_
    refine RL.assign rfl ?_
    refine RL.nil ?_
    refine X.seq ?_
    refine X.region rfl ?_
    refine RL.move rfl ?_
    refine RL.move rfl ?_
    refine RL.indexAddr rfl sl38 rfl rfl rfl rfl (by omega) ?_
    refine RL.loadO rfl sc3 rfl (ints_app_get hh) ?_
    refine RL.move rfl ?_
    refine RL.sub rfl rfl rfl (by omega) ?_
    refine RL.move rfl ?_
    refine RL.add rfl rfl rfl (by omega) ?_
    refine RL.assign rfl ?_
    refine RL.nil ?_
    refine X.seq ?_
    refine X.seq ?_
    refine X.region rfl ?_
    refine RL.move rfl ?_
    refine RL.cmp_s rfl rfl rfl rfl (fun h6 => ?_) (fun h6 => ?_)
    ·replace h6 : (_ : Int) ≥ _ := h6
     refine RL.move rfl ?_
     refine RL.move rfl ?_
     refine RL.move rfl ?_
     refine RL.cmp_s rfl rfl rfl rfl (fun h7 => ?_) (fun h7 => ?_)
     ·replace h7 : (_ : Int) ≠ _ := h7
      refine RL.pick_t rfl rfl ?_
      refine RL.nil ?_
      refine X.cond_t rfl ?_
      refine X.seq ?_
      refine X.region rfl ?_
      refine RL.move rfl ?_
      refine RL.move rfl ?_
      refine RL.assign rfl ?_
      refine RL.assign rfl ?_
      refine RL.assign rfl ?_
      refine RL.nil ?_
      refine X.ret ?_
      refine ret3 rfl ?_
      show HRes _ _ _ _
      have hcl : markN l (hts l s g) (k + 1) g = -1 := by rw [hms]; unfold mk leftP; rw [if_pos (by omega)]
      exact HRes.mk hrow rfl (by repeat (first | exact List.Sublist.refl _ | exact List.sublist_append_right _ _ | apply List.Sublist.cons | refine List.Sublist.trans ?_ (List.sublist_append_right _ _))) (heightP_wrong hl hg (by omega) (stepP_of hg hx (wrong5 (.inr (.inl (by rw [clash_stays hcl g (by omega)]; omega))))))
     replace h7 : ¬ ((_ : Int) ≠ _) := h7
     refine RL.pick_t rfl rfl ?_
     refine RL.nil ?_
     refine X.cond_f rfl ?_
     refine X.skip ?_
     refine X.region rfl ?_
     refine RL.move rfl ?_
     refine RL.assign rfl ?_
     refine RL.nil ?_
     refine X.blk ?_
     refine X.region rfl ?_
     refine RL.move rfl ?_
     refine RL.add rfl rfl rfl (by omega) ?_
     refine RL.assign rfl ?_
     refine RL.nil ?_
     refine X.hyp ⟨rfl, k + 1, by omega, _, (by repeat (first | exact sb0 _ | exact sb1 _ | (rw [List.append_nil]; exact sb0 _) | exact sb2 _ _ | exact sb3 _ _ _ | apply sb4 | apply sb5 | apply sb6)), by omega, ?_, ⟨rfl, rfl, rfl, rfl, ?_, rfl, trivial⟩, rfl⟩
     · rw [hms]; unfold mk leftP; split <;> omega
     · refine congrArg (Value.int .i64) ?_
       rw [hms]; unfold mk leftP; split <;> omega
    replace h6 : ¬ ((_ : Int) ≥ _) := h6
    refine RL.move rfl ?_
    refine RL.skip rfl ?_
    refine RL.skip rfl ?_
    refine RL.skip rfl ?_
    refine RL.pick_f rfl rfl ?_
    refine RL.nil ?_
    refine X.cond_f rfl ?_
    refine X.skip ?_
    refine X.region rfl ?_
    refine RL.move rfl ?_
    refine RL.assign rfl ?_
    refine RL.nil ?_
    refine X.blk ?_
    refine X.region rfl ?_
    refine RL.move rfl ?_
    refine RL.add rfl rfl rfl (by omega) ?_
    refine RL.assign rfl ?_
    refine RL.nil ?_
    refine X.hyp ⟨rfl, k + 1, by omega, _, (by repeat (first | exact sb0 _ | exact sb1 _ | (rw [List.append_nil]; exact sb0 _) | exact sb2 _ _ | exact sb3 _ _ _ | apply sb4 | apply sb5 | apply sb6)), by omega, ?_, ⟨rfl, rfl, rfl, rfl, ?_, rfl, trivial⟩, rfl⟩
    · rw [hms]; unfold mk leftP; split <;> omega
    · refine congrArg (Value.int .i64) ?_
      rw [hms]; unfold mk leftP; split <;> omega
   replace h5 : ¬ ((_ : Int) < _) := h5
   obtain rfl : k = g := by omega
   have htk := takeP_range x.op
   have hly := layP_range x.op
   have hmr := markN_range (l := l) (s := s) (m := k) k k
   rcases ho : okP x s with _ | _
   ·refine RL.nil ?_
    refine X.cond_f rfl ?_
    refine X.exit rfl ?_
    refine X.seq ?_
    refine X.region rfl ?_
    refine RL.move rfl ?_
    refine RL.move rfl ?_
    refine RL.indexAddr rfl sl78 rfl rfl (hA (by omega)) rfl (by omega) ?_
    refine RL.loadIA rfl ag77 rfl (elem_at Ins.len hc hx) (by simp) (Ins.len _) ?_
    refine RL.move rfl ?_
    refine RL.fn0 rfl rfl rfl en57 (fun w hw => (f_rshape x s w).mono (fun v L h => (by rw [ho] at h; exact h : v = .tuple #[.int .i64 (takeP x.op), .int .i64 (layP x.op), .bool false]))) rfl ?_
    rintro _ _ rfl
    refine RL.drop (L' := Lr) rfl (List.sublist_append_right _ _) ?_
    refine RL.move rfl ?_
    refine RL.extract rfl rfl rfl ?_
    refine RL.extract rfl rfl rfl ?_
    refine RL.extract rfl rfl rfl ?_
    refine RL.assign rfl ?_
    refine RL.assign rfl ?_
    refine RL.assign rfl ?_
    refine RL.nil ?_
    refine X.seq ?_
    refine X.seq ?_
    refine X.region rfl ?_
    refine RL.move rfl ?_
    refine RL.not rfl rfl ?_
    refine RL.move rfl ?_
    refine RL.skip rfl ?_
    refine RL.skip rfl ?_
    refine RL.pick_t rfl rfl ?_
    refine RL.move rfl ?_
    refine RL.skip rfl ?_
    refine RL.skip rfl ?_
    refine RL.skip rfl ?_
    refine RL.pick_t rfl rfl ?_
    refine RL.move rfl ?_
    refine RL.skip rfl ?_
    refine RL.skip rfl ?_
    refine RL.skip rfl ?_
    refine RL.skip rfl ?_
    refine RL.skip rfl ?_
    refine RL.skip rfl ?_
    refine RL.skip rfl ?_
    refine RL.skip rfl ?_
    refine RL.skip rfl ?_
    refine RL.skip rfl ?_
    refine RL.pick_t rfl rfl ?_
    refine RL.nil ?_
    refine X.cond_t rfl ?_
    refine X.seq ?_
    refine X.region rfl ?_
    refine RL.move rfl ?_
    refine RL.move rfl ?_
    refine RL.assign rfl ?_
    refine RL.assign rfl ?_
    refine RL.assign rfl ?_
    refine RL.nil ?_
    refine X.ret ?_
    refine ret3 rfl ?_
    show HRes _ _ _ _
    exact HRes.mk hrow rfl (by repeat (first | exact sb0 _ | exact sb1 _ | (rw [List.append_nil]; exact sb0 _) | exact sb2 _ _ | exact sb3 _ _ _ | apply sb4 | apply sb5 | apply sb6)) (heightP_wrong hl hg (by omega) (stepP_of hg hx (wrong5 (.inl ho))))
   refine RL.nil ?_
   refine X.cond_f rfl ?_
   refine X.exit rfl ?_
   refine X.seq ?_
   refine X.region rfl ?_
   refine RL.move rfl ?_
   refine RL.move rfl ?_
   refine RL.indexAddr rfl sl78 rfl rfl (hA (by omega)) rfl (by omega) ?_
   refine RL.loadIA rfl ag77 rfl (elem_at Ins.len hc hx) (by simp) (Ins.len _) ?_
   refine RL.move rfl ?_
   refine RL.fn0 rfl rfl rfl en57 (fun w hw => (f_rshape x s w).mono (fun v L h => (by rw [ho] at h; exact h : v = .tuple #[.int .i64 (takeP x.op), .int .i64 (layP x.op), .bool true]))) rfl ?_
   rintro _ _ rfl
   refine RL.drop (L' := Lr) rfl (List.sublist_append_right _ _) ?_
   refine RL.move rfl ?_
   refine RL.extract rfl rfl rfl ?_
   refine RL.extract rfl rfl rfl ?_
   refine RL.extract rfl rfl rfl ?_
   refine RL.assign rfl ?_
   refine RL.assign rfl ?_
   refine RL.assign rfl ?_
   refine RL.nil ?_
   refine X.seq ?_
   refine X.seq ?_
   refine X.region rfl ?_
   refine RL.move rfl ?_
   refine RL.not rfl rfl ?_
   refine RL.move rfl ?_
   refine RL.move rfl ?_
   refine RL.cmp_s rfl rfl rfl rfl (fun c1 => ?_) (fun c1 => ?_)
   ·replace c1 : (_ : Int) < _ := c1
    refine RL.pick_f rfl rfl ?_
    refine RL.move rfl ?_
    refine RL.skip rfl ?_
    refine RL.skip rfl ?_
    refine RL.skip rfl ?_
    refine RL.pick_t rfl rfl ?_
    refine RL.move rfl ?_
    refine RL.skip rfl ?_
    refine RL.skip rfl ?_
    refine RL.skip rfl ?_
    refine RL.skip rfl ?_
    refine RL.skip rfl ?_
    refine RL.skip rfl ?_
    refine RL.skip rfl ?_
    refine RL.skip rfl ?_
    refine RL.skip rfl ?_
    refine RL.skip rfl ?_
    refine RL.pick_t rfl rfl ?_
    refine RL.nil ?_
    refine X.cond_t rfl ?_
    refine X.seq ?_
    refine X.region rfl ?_
    refine RL.move rfl ?_
    refine RL.move rfl ?_
    refine RL.assign rfl ?_
    refine RL.assign rfl ?_
    refine RL.assign rfl ?_
    refine RL.nil ?_
    refine X.ret ?_
    refine ret3 rfl ?_
    show HRes _ _ _ _
    first
      | exact HRes.mk hrow rfl (by repeat (first | exact sb0 _ | exact sb1 _ | (rw [List.append_nil]; exact sb0 _) | exact sb2 _ _ | exact sb3 _ _ _ | apply sb4 | apply sb5 | apply sb6)) (heightP_wrong hl hg (by omega) (stepP_of hg hx (wrong5 (.inr (by omega)))))
      | exact HRes.mk hrow rfl (by repeat (first | exact sb0 _ | exact sb1 _ | (rw [List.append_nil]; exact sb0 _) | exact sb2 _ _ | exact sb3 _ _ _ | apply sb4 | apply sb5 | apply sb6)) (heightP_wrong hl hg (by omega) (stepP_of hg hx (wrong16 ho (by omega) (by unfold leftP; omega))))
      | exact HRes.mk hrow rfl (by repeat (first | exact sb0 _ | exact sb1 _ | (rw [List.append_nil]; exact sb0 _) | exact sb2 _ _ | exact sb3 _ _ _ | apply sb4 | apply sb5 | apply sb6)) (heightP_wrong hl hg (by omega) (stepP_of hg hx (wrong5c ho (by omega) (by unfold leftP; omega) (by omega))))
   replace c1 : ¬ ((_ : Int) < _) := c1
   refine RL.pick_f rfl rfl ?_
   refine RL.move rfl ?_
   refine RL.move rfl ?_
   refine RL.move rfl ?_
   refine RL.cmp_s rfl rfl rfl rfl (fun c2 => ?_) (fun c2 => ?_)
   ·replace c2 : (_ : Int) < _ := c2
    refine RL.pick_f rfl rfl ?_
    refine RL.move rfl ?_
    refine RL.skip rfl ?_
    refine RL.skip rfl ?_
    refine RL.skip rfl ?_
    refine RL.skip rfl ?_
    refine RL.skip rfl ?_
    refine RL.skip rfl ?_
    refine RL.skip rfl ?_
    refine RL.skip rfl ?_
    refine RL.skip rfl ?_
    refine RL.skip rfl ?_
    refine RL.pick_t rfl rfl ?_
    refine RL.nil ?_
    refine X.cond_t rfl ?_
    refine X.seq ?_
    refine X.region rfl ?_
    refine RL.move rfl ?_
    refine RL.move rfl ?_
    refine RL.assign rfl ?_
    refine RL.assign rfl ?_
    refine RL.assign rfl ?_
    refine RL.nil ?_
    refine X.ret ?_
    refine ret3 rfl ?_
    show HRes _ _ _ _
    first
      | exact HRes.mk hrow rfl (by repeat (first | exact sb0 _ | exact sb1 _ | (rw [List.append_nil]; exact sb0 _) | exact sb2 _ _ | exact sb3 _ _ _ | apply sb4 | apply sb5 | apply sb6)) (heightP_wrong hl hg (by omega) (stepP_of hg hx (wrong5 (.inr (by omega)))))
      | exact HRes.mk hrow rfl (by repeat (first | exact sb0 _ | exact sb1 _ | (rw [List.append_nil]; exact sb0 _) | exact sb2 _ _ | exact sb3 _ _ _ | apply sb4 | apply sb5 | apply sb6)) (heightP_wrong hl hg (by omega) (stepP_of hg hx (wrong16 ho (by omega) (by unfold leftP; omega))))
      | exact HRes.mk hrow rfl (by repeat (first | exact sb0 _ | exact sb1 _ | (rw [List.append_nil]; exact sb0 _) | exact sb2 _ _ | exact sb3 _ _ _ | apply sb4 | apply sb5 | apply sb6)) (heightP_wrong hl hg (by omega) (stepP_of hg hx (wrong5c ho (by omega) (by unfold leftP; omega) (by omega))))
   replace c2 : ¬ ((_ : Int) < _) := c2
   refine RL.pick_f rfl rfl ?_
   refine RL.move rfl ?_
   refine RL.move rfl ?_
   refine RL.move rfl ?_
   refine RL.indexAddr rfl sl78 rfl rfl (hA (by omega)) rfl (by omega) ?_
   refine RL.fieldAddr rfl fd77_0 rfl ?_
   refine RL.loadI rfl sc3 rfl (CellsAt.at (elem_at Ins.len hc hx) rfl) (by simp) ?_
   refine RL.cmp_s rfl rfl rfl rfl (fun c3 => ?_) (fun c3 => ?_)
   ·replace c3 : (_ : Int) = _ := c3
    refine RL.move rfl ?_
    refine RL.move rfl ?_
    refine RL.cmp_s rfl rfl rfl rfl (fun c4 => ?_) (fun c4 => ?_)
    ·replace c4 : (_ : Int) ≠ _ := c4
     refine RL.pick_t rfl rfl ?_
     refine RL.pick_f rfl rfl ?_
     refine RL.nil ?_
     refine X.cond_t rfl ?_
     refine X.seq ?_
     refine X.region rfl ?_
     refine RL.move rfl ?_
     refine RL.move rfl ?_
     refine RL.assign rfl ?_
     refine RL.assign rfl ?_
     refine RL.assign rfl ?_
     refine RL.nil ?_
     refine X.ret ?_
     refine ret3 rfl ?_
     show HRes _ _ _ _
     first
       | exact HRes.mk hrow rfl (by repeat (first | exact sb0 _ | exact sb1 _ | (rw [List.append_nil]; exact sb0 _) | exact sb2 _ _ | exact sb3 _ _ _ | apply sb4 | apply sb5 | apply sb6)) (heightP_wrong hl hg (by omega) (stepP_of hg hx (wrong5 (.inr (by omega)))))
       | exact HRes.mk hrow rfl (by repeat (first | exact sb0 _ | exact sb1 _ | (rw [List.append_nil]; exact sb0 _) | exact sb2 _ _ | exact sb3 _ _ _ | apply sb4 | apply sb5 | apply sb6)) (heightP_wrong hl hg (by omega) (stepP_of hg hx (wrong16 ho (by omega) (by unfold leftP; omega))))
       | exact HRes.mk hrow rfl (by repeat (first | exact sb0 _ | exact sb1 _ | (rw [List.append_nil]; exact sb0 _) | exact sb2 _ _ | exact sb3 _ _ _ | apply sb4 | apply sb5 | apply sb6)) (heightP_wrong hl hg (by omega) (stepP_of hg hx (wrong5c ho (by omega) (by unfold leftP; omega) (by omega))))
    replace c4 : ¬ ((_ : Int) ≠ _) := c4
    refine RL.pick_t rfl rfl ?_
    refine RL.pick_f rfl rfl ?_
    refine RL.nil ?_
    refine X.cond_f rfl ?_
    refine X.skip ?_
    refine X.seq ?_
    refine X.seq ?_
    refine X.region rfl ?_
    refine RL.move rfl ?_
    refine RL.move rfl ?_
    refine RL.sub rfl rfl rfl (by omega) ?_
    refine RL.move rfl ?_
    refine RL.add rfl rfl rfl (by omega) ?_
    refine RL.cmp_s rfl rfl rfl rfl (fun c5 => ?_) (fun c5 => ?_)
    ·replace c5 : (_ : Int) > _ := c5
     refine RL.nil ?_
     refine X.cond_t rfl ?_
     refine X.seq ?_
     refine X.region rfl ?_
     refine RL.move rfl ?_
     refine RL.move rfl ?_
     refine RL.assign rfl ?_
     refine RL.assign rfl ?_
     refine RL.assign rfl ?_
     refine RL.nil ?_
     refine X.ret ?_
     refine ret3 rfl ?_
     show HRes _ _ _ _
     first
       | exact HRes.mk hrow rfl (by repeat (first | exact sb0 _ | exact sb1 _ | (rw [List.append_nil]; exact sb0 _) | exact sb2 _ _ | exact sb3 _ _ _ | apply sb4 | apply sb5 | apply sb6)) (heightP_wrong hl hg (by omega) (stepP_of hg hx (wrong5 (.inr (by omega)))))
       | exact HRes.mk hrow rfl (by repeat (first | exact sb0 _ | exact sb1 _ | (rw [List.append_nil]; exact sb0 _) | exact sb2 _ _ | exact sb3 _ _ _ | apply sb4 | apply sb5 | apply sb6)) (heightP_wrong hl hg (by omega) (stepP_of hg hx (wrong16 ho (by omega) (by unfold leftP; omega))))
       | exact HRes.mk hrow rfl (by repeat (first | exact sb0 _ | exact sb1 _ | (rw [List.append_nil]; exact sb0 _) | exact sb2 _ _ | exact sb3 _ _ _ | apply sb4 | apply sb5 | apply sb6)) (heightP_wrong hl hg (by omega) (stepP_of hg hx (wrong5c ho (by omega) (by unfold leftP; omega) (by omega))))
    replace c5 : ¬ ((_ : Int) > _) := c5
    refine RL.nil ?_
    refine X.cond_f rfl ?_
    refine X.skip ?_
    refine X.seq ?_
    refine X.seq ?_
    refine X.region rfl ?_
    refine RL.move rfl ?_
    refine RL.move rfl ?_
    refine RL.indexAddr rfl sl78 rfl rfl (hA (by omega)) rfl (by omega) ?_
    refine RL.fieldAddr rfl fd77_0 rfl ?_
    refine RL.loadI rfl sc3 rfl (CellsAt.at (elem_at Ins.len hc hx) rfl) (by simp) ?_
    refine RL.cmp_s rfl rfl rfl rfl (fun c6 => ?_) (fun c6 => ?_)
    ·replace c6 : (_ : Int) ≠ _ := c6
     refine RL.move rfl ?_
     refine RL.move rfl ?_
     refine RL.move rfl ?_
     refine RL.len rfl sl78 rfl ?_
     refine RL.sub rfl rfl rfl (by omega) ?_
     refine RL.cmp_s rfl rfl rfl rfl (fun c7 => ?_) (fun c7 => ?_)
     ·replace c7 : (_ : Int) = _ := c7
      refine RL.pick_t rfl rfl ?_
      refine RL.move rfl ?_
      refine RL.skip rfl ?_
      refine RL.skip rfl ?_
      refine RL.skip rfl ?_
      refine RL.skip rfl ?_
      refine RL.skip rfl ?_
      refine RL.skip rfl ?_
      refine RL.skip rfl ?_
      refine RL.skip rfl ?_
      refine RL.skip rfl ?_
      refine RL.skip rfl ?_
      refine RL.skip rfl ?_
      refine RL.skip rfl ?_
      refine RL.skip rfl ?_
      refine RL.skip rfl ?_
      refine RL.skip rfl ?_
      refine RL.skip rfl ?_
      refine RL.skip rfl ?_
      refine RL.skip rfl ?_
      refine RL.skip rfl ?_
      refine RL.pick_t rfl rfl ?_
      refine RL.nil ?_
      refine X.cond_t rfl ?_
      refine X.seq ?_
      refine X.region rfl ?_
      refine RL.move rfl ?_
      refine RL.move rfl ?_
      refine RL.assign rfl ?_
      refine RL.assign rfl ?_
      refine RL.assign rfl ?_
      refine RL.nil ?_
      refine X.ret ?_
      refine ret3 rfl ?_
      show HRes _ _ _ _
      first
        | exact HRes.mk hrow rfl (by repeat (first | exact sb0 _ | exact sb1 _ | (rw [List.append_nil]; exact sb0 _) | exact sb2 _ _ | exact sb3 _ _ _ | apply sb4 | apply sb5 | apply sb6)) (heightP_wrong hl hg (by omega) (stepP_of hg hx (wrong5 (.inr (by omega)))))
        | exact HRes.mk hrow rfl (by repeat (first | exact sb0 _ | exact sb1 _ | (rw [List.append_nil]; exact sb0 _) | exact sb2 _ _ | exact sb3 _ _ _ | apply sb4 | apply sb5 | apply sb6)) (heightP_wrong hl hg (by omega) (stepP_of hg hx (wrong16 ho (by omega) (by unfold leftP; omega))))
        | exact HRes.mk hrow rfl (by repeat (first | exact sb0 _ | exact sb1 _ | (rw [List.append_nil]; exact sb0 _) | exact sb2 _ _ | exact sb3 _ _ _ | apply sb4 | apply sb5 | apply sb6)) (heightP_wrong hl hg (by omega) (stepP_of hg hx (wrong5c ho (by omega) (by unfold leftP; omega) (by omega))))
     replace c7 : ¬ ((_ : Int) = _) := c7
     refine RL.pick_t rfl rfl ?_
     refine RL.move rfl ?_
     refine RL.move rfl ?_
     refine RL.move rfl ?_
     refine RL.indexAddr rfl sl78 rfl rfl (hA (by omega)) rfl (by omega) ?_
     refine RL.fieldAddr rfl fd77_0 rfl ?_
     refine RL.loadI rfl sc3 rfl (CellsAt.at (elem_at Ins.len hc hx) rfl) (by simp) ?_
     refine RL.cmp_s rfl rfl rfl rfl (fun c8 => ?_) (fun c8 => ?_)
     ·replace c8 : (_ : Int) = _ := c8
      refine RL.move rfl ?_
      refine RL.move rfl ?_
      refine RL.move rfl ?_
      refine RL.indexAddr rfl sl78 rfl rfl (hA (by omega)) rfl (by omega) ?_
      refine RL.fieldAddr rfl fd77_1 rfl ?_
      refine RL.loadI rfl sc3 rfl (CellsAt.at (elem_at Ins.len hc hx) rfl) (by simp) ?_
      refine RL.move rfl ?_
      refine RL.len rfl sl78 rfl ?_
      refine RL.sub rfl rfl rfl (by omega) ?_
      refine RL.move rfl ?_
      refine RL.sub rfl rfl rfl (by omega) ?_
      refine RL.cmp_s rfl rfl rfl rfl (fun c9 => ?_) (fun c9 => ?_)
      ·replace c9 : (_ : Int) > _ := c9
       refine RL.pick_t rfl rfl ?_
       refine RL.pick_f rfl rfl ?_
       refine RL.nil ?_
       refine X.cond_t rfl ?_
       refine X.seq ?_
       refine X.region rfl ?_
       refine RL.move rfl ?_
       refine RL.move rfl ?_
       refine RL.assign rfl ?_
       refine RL.assign rfl ?_
       refine RL.assign rfl ?_
       refine RL.nil ?_
       refine X.ret ?_
       refine ret3 rfl ?_
       show HRes _ _ _ _
       first
         | exact HRes.mk hrow rfl (by repeat (first | exact sb0 _ | exact sb1 _ | (rw [List.append_nil]; exact sb0 _) | exact sb2 _ _ | exact sb3 _ _ _ | apply sb4 | apply sb5 | apply sb6)) (heightP_wrong hl hg (by omega) (stepP_of hg hx (wrong5 (.inr (by omega)))))
         | exact HRes.mk hrow rfl (by repeat (first | exact sb0 _ | exact sb1 _ | (rw [List.append_nil]; exact sb0 _) | exact sb2 _ _ | exact sb3 _ _ _ | apply sb4 | apply sb5 | apply sb6)) (heightP_wrong hl hg (by omega) (stepP_of hg hx (wrong16 ho (by omega) (by unfold leftP; omega))))
         | exact HRes.mk hrow rfl (by repeat (first | exact sb0 _ | exact sb1 _ | (rw [List.append_nil]; exact sb0 _) | exact sb2 _ _ | exact sb3 _ _ _ | apply sb4 | apply sb5 | apply sb6)) (heightP_wrong hl hg (by omega) (stepP_of hg hx (wrong5c ho (by omega) (by unfold leftP; omega) (by omega))))
      replace c9 : ¬ ((_ : Int) > _) := c9
      refine RL.pick_t rfl rfl ?_
      refine RL.pick_f rfl rfl ?_
      refine RL.nil ?_
      refine X.cond_f rfl ?_
      refine X.skip ?_
      refine X.region rfl ?_
      refine RL.move rfl ?_
      refine RL.move rfl ?_
      have hst : stepP l s (hts l s k) = none := stepP_of hg hx (wrong0 ho (by omega) (by unfold leftP; omega) (by omega))
      have hn := hts_next hg hst
      refine RL.bs1I rfl rfl sl38 zt3 rfl ?_
      intro bb3 hbb3
      refine RL.app1I (Lz := []) rfl rfl sl38 el_int Try.underlying38 (by rw [List.append_nil]) rfl rfl hrow (by rw [ints_length]; omega) (n := (hts l s k ++ [markN l (hts l s k) k k - 1]).length) (by rw [ints_length]; simp) ?_
      intro A3 cp3 Lr3 hr3
      refine RL.assign rfl ?_
      refine RL.nil ?_
      refine X.blk ?_
      refine X.region rfl ?_
      refine RL.move rfl ?_
      refine RL.add rfl rfl rfl (by omega) ?_
      refine RL.assign rfl ?_
      refine RL.nil ?_
      refine X.hyp ⟨rfl, k + 1, by omega, Lr3, (by repeat (first | exact sb0 _ | exact sb1 _ | (rw [List.append_nil]; exact sb0 _) | exact sb2 _ _ | exact sb3 _ _ _ | apply sb4 | apply sb5 | apply sb6)), A3, cp3, Lr3, ?_, by omega, ?_, ?_, rfl⟩
      · rw [hn]; exact hr3.irow
      · rw [hn]; simp [hg]
      · rw [hn]; exact ⟨rfl, rfl, rfl, rfl, trivial⟩
     replace c8 : ¬ ((_ : Int) = _) := c8
     refine RL.move rfl ?_
     refine RL.skip rfl ?_
     refine RL.skip rfl ?_
     refine RL.skip rfl ?_
     refine RL.skip rfl ?_
     refine RL.skip rfl ?_
     refine RL.skip rfl ?_
     refine RL.skip rfl ?_
     refine RL.skip rfl ?_
     refine RL.skip rfl ?_
     refine RL.skip rfl ?_
     refine RL.skip rfl ?_
     refine RL.pick_f rfl rfl ?_
     refine RL.pick_f rfl rfl ?_
     refine RL.nil ?_
     refine X.cond_f rfl ?_
     refine X.skip ?_
     refine X.region rfl ?_
     refine RL.move rfl ?_
     refine RL.move rfl ?_
     have hst : stepP l s (hts l s k) = none := stepP_of hg hx (wrong0 ho (by omega) (by unfold leftP; omega) (by omega))
     have hn := hts_next hg hst
     refine RL.bs1I rfl rfl sl38 zt3 rfl ?_
     intro bb3 hbb3
     refine RL.app1I (Lz := []) rfl rfl sl38 el_int Try.underlying38 (by rw [List.append_nil]) rfl rfl hrow (by rw [ints_length]; omega) (n := (hts l s k ++ [markN l (hts l s k) k k - 1]).length) (by rw [ints_length]; simp) ?_
     intro A3 cp3 Lr3 hr3
     refine RL.assign rfl ?_
     refine RL.nil ?_
     refine X.blk ?_
     refine X.region rfl ?_
     refine RL.move rfl ?_
     refine RL.add rfl rfl rfl (by omega) ?_
     refine RL.assign rfl ?_
     refine RL.nil ?_
     refine X.hyp ⟨rfl, k + 1, by omega, Lr3, (by repeat (first | exact sb0 _ | exact sb1 _ | (rw [List.append_nil]; exact sb0 _) | exact sb2 _ _ | exact sb3 _ _ _ | apply sb4 | apply sb5 | apply sb6)), A3, cp3, Lr3, ?_, by omega, ?_, ?_, rfl⟩
     · rw [hn]; exact hr3.irow
     · rw [hn]; simp [hg]
     · rw [hn]; exact ⟨rfl, rfl, rfl, rfl, trivial⟩
    replace c6 : ¬ ((_ : Int) ≠ _) := c6
    refine RL.move rfl ?_
    refine RL.skip rfl ?_
    refine RL.skip rfl ?_
    refine RL.skip rfl ?_
    refine RL.skip rfl ?_
    refine RL.skip rfl ?_
    refine RL.pick_f rfl rfl ?_
    refine RL.move rfl ?_
    refine RL.move rfl ?_
    refine RL.move rfl ?_
    refine RL.indexAddr rfl sl78 rfl rfl (hA (by omega)) rfl (by omega) ?_
    refine RL.fieldAddr rfl fd77_0 rfl ?_
    refine RL.loadI rfl sc3 rfl (CellsAt.at (elem_at Ins.len hc hx) rfl) (by simp) ?_
    refine RL.cmp_s rfl rfl rfl rfl (fun c10 => ?_) (fun c10 => ?_)
    ·replace c10 : (_ : Int) = _ := c10
     refine RL.move rfl ?_
     refine RL.move rfl ?_
     refine RL.move rfl ?_
     refine RL.indexAddr rfl sl78 rfl rfl (hA (by omega)) rfl (by omega) ?_
     refine RL.fieldAddr rfl fd77_1 rfl ?_
     refine RL.loadI rfl sc3 rfl (CellsAt.at (elem_at Ins.len hc hx) rfl) (by simp) ?_
     refine RL.move rfl ?_
     refine RL.len rfl sl78 rfl ?_
     refine RL.sub rfl rfl rfl (by omega) ?_
     refine RL.move rfl ?_
     refine RL.sub rfl rfl rfl (by omega) ?_
     refine RL.cmp_s rfl rfl rfl rfl (fun c11 => ?_) (fun c11 => ?_)
     ·replace c11 : (_ : Int) > _ := c11
      refine RL.pick_t rfl rfl ?_
      refine RL.pick_f rfl rfl ?_
      refine RL.nil ?_
      refine X.cond_t rfl ?_
      refine X.seq ?_
      refine X.region rfl ?_
      refine RL.move rfl ?_
      refine RL.move rfl ?_
      refine RL.assign rfl ?_
      refine RL.assign rfl ?_
      refine RL.assign rfl ?_
      refine RL.nil ?_
      refine X.ret ?_
      refine ret3 rfl ?_
      show HRes _ _ _ _
      first
        | exact HRes.mk hrow rfl (by repeat (first | exact sb0 _ | exact sb1 _ | (rw [List.append_nil]; exact sb0 _) | exact sb2 _ _ | exact sb3 _ _ _ | apply sb4 | apply sb5 | apply sb6)) (heightP_wrong hl hg (by omega) (stepP_of hg hx (wrong5 (.inr (by omega)))))
        | exact HRes.mk hrow rfl (by repeat (first | exact sb0 _ | exact sb1 _ | (rw [List.append_nil]; exact sb0 _) | exact sb2 _ _ | exact sb3 _ _ _ | apply sb4 | apply sb5 | apply sb6)) (heightP_wrong hl hg (by omega) (stepP_of hg hx (wrong16 ho (by omega) (by unfold leftP; omega))))
        | exact HRes.mk hrow rfl (by repeat (first | exact sb0 _ | exact sb1 _ | (rw [List.append_nil]; exact sb0 _) | exact sb2 _ _ | exact sb3 _ _ _ | apply sb4 | apply sb5 | apply sb6)) (heightP_wrong hl hg (by omega) (stepP_of hg hx (wrong5c ho (by omega) (by unfold leftP; omega) (by omega))))
     replace c11 : ¬ ((_ : Int) > _) := c11
     refine RL.pick_t rfl rfl ?_
     refine RL.pick_f rfl rfl ?_
     refine RL.nil ?_
     refine X.cond_f rfl ?_
     refine X.skip ?_
     refine X.region rfl ?_
     refine RL.move rfl ?_
     refine RL.move rfl ?_
     have hst : stepP l s (hts l s k) = none := stepP_of hg hx (wrong0 ho (by omega) (by unfold leftP; omega) (by omega))
     have hn := hts_next hg hst
     refine RL.bs1I rfl rfl sl38 zt3 rfl ?_
     intro bb3 hbb3
     refine RL.app1I (Lz := []) rfl rfl sl38 el_int Try.underlying38 (by rw [List.append_nil]) rfl rfl hrow (by rw [ints_length]; omega) (n := (hts l s k ++ [markN l (hts l s k) k k - 1]).length) (by rw [ints_length]; simp) ?_
     intro A3 cp3 Lr3 hr3
     refine RL.assign rfl ?_
     refine RL.nil ?_
     refine X.blk ?_
     refine X.region rfl ?_
     refine RL.move rfl ?_
     refine RL.add rfl rfl rfl (by omega) ?_
     refine RL.assign rfl ?_
     refine RL.nil ?_
     refine X.hyp ⟨rfl, k + 1, by omega, Lr3, (by repeat (first | exact sb0 _ | exact sb1 _ | (rw [List.append_nil]; exact sb0 _) | exact sb2 _ _ | exact sb3 _ _ _ | apply sb4 | apply sb5 | apply sb6)), A3, cp3, Lr3, ?_, by omega, ?_, ?_, rfl⟩
     · rw [hn]; exact hr3.irow
     · rw [hn]; simp [hg]
     · rw [hn]; exact ⟨rfl, rfl, rfl, rfl, trivial⟩
    replace c10 : ¬ ((_ : Int) = _) := c10
    refine RL.move rfl ?_
    refine RL.skip rfl ?_
    refine RL.skip rfl ?_
    refine RL.skip rfl ?_
    refine RL.skip rfl ?_
    refine RL.skip rfl ?_
    refine RL.skip rfl ?_
    refine RL.skip rfl ?_
    refine RL.skip rfl ?_
    refine RL.skip rfl ?_
    refine RL.skip rfl ?_
    refine RL.skip rfl ?_
    refine RL.pick_f rfl rfl ?_
    refine RL.pick_f rfl rfl ?_
    refine RL.nil ?_
    refine X.cond_f rfl ?_
    refine X.skip ?_
    refine X.region rfl ?_
    refine RL.move rfl ?_
    refine RL.move rfl ?_
    have hst : stepP l s (hts l s k) = none := stepP_of hg hx (wrong0 ho (by omega) (by unfold leftP; omega) (by omega))
    have hn := hts_next hg hst
    refine RL.bs1I rfl rfl sl38 zt3 rfl ?_
    intro bb3 hbb3
    refine RL.app1I (Lz := []) rfl rfl sl38 el_int Try.underlying38 (by rw [List.append_nil]) rfl rfl hrow (by rw [ints_length]; omega) (n := (hts l s k ++ [markN l (hts l s k) k k - 1]).length) (by rw [ints_length]; simp) ?_
    intro A3 cp3 Lr3 hr3
    refine RL.assign rfl ?_
    refine RL.nil ?_
    refine X.blk ?_
    refine X.region rfl ?_
    refine RL.move rfl ?_
    refine RL.add rfl rfl rfl (by omega) ?_
    refine RL.assign rfl ?_
    refine RL.nil ?_
    refine X.hyp ⟨rfl, k + 1, by omega, Lr3, (by repeat (first | exact sb0 _ | exact sb1 _ | (rw [List.append_nil]; exact sb0 _) | exact sb2 _ _ | exact sb3 _ _ _ | apply sb4 | apply sb5 | apply sb6)), A3, cp3, Lr3, ?_, by omega, ?_, ?_, rfl⟩
    · rw [hn]; exact hr3.irow
    · rw [hn]; simp [hg]
    · rw [hn]; exact ⟨rfl, rfl, rfl, rfl, trivial⟩
   replace c3 : ¬ ((_ : Int) = _) := c3
   refine RL.move rfl ?_
   refine RL.skip rfl ?_
   refine RL.skip rfl ?_
   refine RL.pick_f rfl rfl ?_
   refine RL.pick_f rfl rfl ?_
   refine RL.nil ?_
   refine X.cond_f rfl ?_
   refine X.skip ?_
   refine X.seq ?_
   refine X.seq ?_
   refine X.region rfl ?_
   refine RL.move rfl ?_
   refine RL.move rfl ?_
   refine RL.sub rfl rfl rfl (by omega) ?_
   refine RL.move rfl ?_
   refine RL.add rfl rfl rfl (by omega) ?_
   refine RL.cmp_s rfl rfl rfl rfl (fun c12 => ?_) (fun c12 => ?_)
   ·replace c12 : (_ : Int) > _ := c12
    refine RL.nil ?_
    refine X.cond_t rfl ?_
    refine X.seq ?_
    refine X.region rfl ?_
    refine RL.move rfl ?_
    refine RL.move rfl ?_
    refine RL.assign rfl ?_
    refine RL.assign rfl ?_
    refine RL.assign rfl ?_
    refine RL.nil ?_
    refine X.ret ?_
    refine ret3 rfl ?_
    show HRes _ _ _ _
    first
      | exact HRes.mk hrow rfl (by repeat (first | exact sb0 _ | exact sb1 _ | (rw [List.append_nil]; exact sb0 _) | exact sb2 _ _ | exact sb3 _ _ _ | apply sb4 | apply sb5 | apply sb6)) (heightP_wrong hl hg (by omega) (stepP_of hg hx (wrong5 (.inr (by omega)))))
      | exact HRes.mk hrow rfl (by repeat (first | exact sb0 _ | exact sb1 _ | (rw [List.append_nil]; exact sb0 _) | exact sb2 _ _ | exact sb3 _ _ _ | apply sb4 | apply sb5 | apply sb6)) (heightP_wrong hl hg (by omega) (stepP_of hg hx (wrong16 ho (by omega) (by unfold leftP; omega))))
      | exact HRes.mk hrow rfl (by repeat (first | exact sb0 _ | exact sb1 _ | (rw [List.append_nil]; exact sb0 _) | exact sb2 _ _ | exact sb3 _ _ _ | apply sb4 | apply sb5 | apply sb6)) (heightP_wrong hl hg (by omega) (stepP_of hg hx (wrong5c ho (by omega) (by unfold leftP; omega) (by omega))))
   replace c12 : ¬ ((_ : Int) > _) := c12
   refine RL.nil ?_
   refine X.cond_f rfl ?_
   refine X.skip ?_
   refine X.seq ?_
   refine X.seq ?_
   refine X.region rfl ?_
   refine RL.move rfl ?_
   refine RL.move rfl ?_
   refine RL.indexAddr rfl sl78 rfl rfl (hA (by omega)) rfl (by omega) ?_
   refine RL.fieldAddr rfl fd77_0 rfl ?_
   refine RL.loadI rfl sc3 rfl (CellsAt.at (elem_at Ins.len hc hx) rfl) (by simp) ?_
   refine RL.cmp_s rfl rfl rfl rfl (fun c13 => ?_) (fun c13 => ?_)
   ·replace c13 : (_ : Int) ≠ _ := c13
    refine RL.move rfl ?_
    refine RL.move rfl ?_
    refine RL.move rfl ?_
    refine RL.len rfl sl78 rfl ?_
    refine RL.sub rfl rfl rfl (by omega) ?_
    refine RL.cmp_s rfl rfl rfl rfl (fun c14 => ?_) (fun c14 => ?_)
    ·replace c14 : (_ : Int) = _ := c14
     refine RL.pick_t rfl rfl ?_
     refine RL.move rfl ?_
     refine RL.skip rfl ?_
     refine RL.skip rfl ?_
     refine RL.skip rfl ?_
     refine RL.skip rfl ?_
     refine RL.skip rfl ?_
     refine RL.skip rfl ?_
     refine RL.skip rfl ?_
     refine RL.skip rfl ?_
     refine RL.skip rfl ?_
     refine RL.skip rfl ?_
     refine RL.skip rfl ?_
     refine RL.skip rfl ?_
     refine RL.skip rfl ?_
     refine RL.skip rfl ?_
     refine RL.skip rfl ?_
     refine RL.skip rfl ?_
     refine RL.skip rfl ?_
     refine RL.skip rfl ?_
     refine RL.skip rfl ?_
     refine RL.pick_t rfl rfl ?_
     refine RL.nil ?_
     refine X.cond_t rfl ?_
     refine X.seq ?_
     refine X.region rfl ?_
     refine RL.move rfl ?_
     refine RL.move rfl ?_
     refine RL.assign rfl ?_
     refine RL.assign rfl ?_
     refine RL.assign rfl ?_
     refine RL.nil ?_
     refine X.ret ?_
     refine ret3 rfl ?_
     show HRes _ _ _ _
     first
       | exact HRes.mk hrow rfl (by repeat (first | exact sb0 _ | exact sb1 _ | (rw [List.append_nil]; exact sb0 _) | exact sb2 _ _ | exact sb3 _ _ _ | apply sb4 | apply sb5 | apply sb6)) (heightP_wrong hl hg (by omega) (stepP_of hg hx (wrong5 (.inr (by omega)))))
       | exact HRes.mk hrow rfl (by repeat (first | exact sb0 _ | exact sb1 _ | (rw [List.append_nil]; exact sb0 _) | exact sb2 _ _ | exact sb3 _ _ _ | apply sb4 | apply sb5 | apply sb6)) (heightP_wrong hl hg (by omega) (stepP_of hg hx (wrong16 ho (by omega) (by unfold leftP; omega))))
       | exact HRes.mk hrow rfl (by repeat (first | exact sb0 _ | exact sb1 _ | (rw [List.append_nil]; exact sb0 _) | exact sb2 _ _ | exact sb3 _ _ _ | apply sb4 | apply sb5 | apply sb6)) (heightP_wrong hl hg (by omega) (stepP_of hg hx (wrong5c ho (by omega) (by unfold leftP; omega) (by omega))))
    replace c14 : ¬ ((_ : Int) = _) := c14
    refine RL.pick_t rfl rfl ?_
    refine RL.move rfl ?_
    refine RL.move rfl ?_
    refine RL.move rfl ?_
    refine RL.indexAddr rfl sl78 rfl rfl (hA (by omega)) rfl (by omega) ?_
    refine RL.fieldAddr rfl fd77_0 rfl ?_
    refine RL.loadI rfl sc3 rfl (CellsAt.at (elem_at Ins.len hc hx) rfl) (by simp) ?_
    refine RL.cmp_s rfl rfl rfl rfl (fun c15 => ?_) (fun c15 => ?_)
    ·replace c15 : (_ : Int) = _ := c15
     refine RL.move rfl ?_
     refine RL.move rfl ?_
     refine RL.move rfl ?_
     refine RL.indexAddr rfl sl78 rfl rfl (hA (by omega)) rfl (by omega) ?_
     refine RL.fieldAddr rfl fd77_1 rfl ?_
     refine RL.loadI rfl sc3 rfl (CellsAt.at (elem_at Ins.len hc hx) rfl) (by simp) ?_
     refine RL.move rfl ?_
     refine RL.len rfl sl78 rfl ?_
     refine RL.sub rfl rfl rfl (by omega) ?_
     refine RL.move rfl ?_
     refine RL.sub rfl rfl rfl (by omega) ?_
     refine RL.cmp_s rfl rfl rfl rfl (fun c16 => ?_) (fun c16 => ?_)
     ·replace c16 : (_ : Int) > _ := c16
      refine RL.pick_t rfl rfl ?_
      refine RL.pick_f rfl rfl ?_
      refine RL.nil ?_
      refine X.cond_t rfl ?_
      refine X.seq ?_
      refine X.region rfl ?_
      refine RL.move rfl ?_
      refine RL.move rfl ?_
      refine RL.assign rfl ?_
      refine RL.assign rfl ?_
      refine RL.assign rfl ?_
      refine RL.nil ?_
      refine X.ret ?_
      refine ret3 rfl ?_
      show HRes _ _ _ _
      first
        | exact HRes.mk hrow rfl (by repeat (first | exact sb0 _ | exact sb1 _ | (rw [List.append_nil]; exact sb0 _) | exact sb2 _ _ | exact sb3 _ _ _ | apply sb4 | apply sb5 | apply sb6)) (heightP_wrong hl hg (by omega) (stepP_of hg hx (wrong5 (.inr (by omega)))))
        | exact HRes.mk hrow rfl (by repeat (first | exact sb0 _ | exact sb1 _ | (rw [List.append_nil]; exact sb0 _) | exact sb2 _ _ | exact sb3 _ _ _ | apply sb4 | apply sb5 | apply sb6)) (heightP_wrong hl hg (by omega) (stepP_of hg hx (wrong16 ho (by omega) (by unfold leftP; omega))))
        | exact HRes.mk hrow rfl (by repeat (first | exact sb0 _ | exact sb1 _ | (rw [List.append_nil]; exact sb0 _) | exact sb2 _ _ | exact sb3 _ _ _ | apply sb4 | apply sb5 | apply sb6)) (heightP_wrong hl hg (by omega) (stepP_of hg hx (wrong5c ho (by omega) (by unfold leftP; omega) (by omega))))
     replace c16 : ¬ ((_ : Int) > _) := c16
     refine RL.pick_t rfl rfl ?_
     refine RL.pick_f rfl rfl ?_
     refine RL.nil ?_
     refine X.cond_f rfl ?_
     refine X.skip ?_
     refine X.region rfl ?_
     refine RL.move rfl ?_
     refine RL.move rfl ?_
     have hst : stepP l s (hts l s k) = none := stepP_of hg hx (wrong0 ho (by omega) (by unfold leftP; omega) (by omega))
     have hn := hts_next hg hst
     refine RL.bs1I rfl rfl sl38 zt3 rfl ?_
     intro bb3 hbb3
     refine RL.app1I (Lz := []) rfl rfl sl38 el_int Try.underlying38 (by rw [List.append_nil]) rfl rfl hrow (by rw [ints_length]; omega) (n := (hts l s k ++ [markN l (hts l s k) k k - 1]).length) (by rw [ints_length]; simp) ?_
     intro A3 cp3 Lr3 hr3
     refine RL.assign rfl ?_
     refine RL.nil ?_
     refine X.blk ?_
     refine X.region rfl ?_
     refine RL.move rfl ?_
     refine RL.add rfl rfl rfl (by omega) ?_
     refine RL.assign rfl ?_
     refine RL.nil ?_
     refine X.hyp ⟨rfl, k + 1, by omega, Lr3, (by repeat (first | exact sb0 _ | exact sb1 _ | (rw [List.append_nil]; exact sb0 _) | exact sb2 _ _ | exact sb3 _ _ _ | apply sb4 | apply sb5 | apply sb6)), A3, cp3, Lr3, ?_, by omega, ?_, ?_, rfl⟩
     · rw [hn]; exact hr3.irow
     · rw [hn]; simp [hg]
     · rw [hn]; exact ⟨rfl, rfl, rfl, rfl, trivial⟩
    replace c15 : ¬ ((_ : Int) = _) := c15
    refine RL.move rfl ?_
    refine RL.skip rfl ?_
    refine RL.skip rfl ?_
    refine RL.skip rfl ?_
    refine RL.skip rfl ?_
    refine RL.skip rfl ?_
    refine RL.skip rfl ?_
    refine RL.skip rfl ?_
    refine RL.skip rfl ?_
    refine RL.skip rfl ?_
    refine RL.skip rfl ?_
    refine RL.skip rfl ?_
    refine RL.pick_f rfl rfl ?_
    refine RL.pick_f rfl rfl ?_
    refine RL.nil ?_
    refine X.cond_f rfl ?_
    refine X.skip ?_
    refine X.region rfl ?_
    refine RL.move rfl ?_
    refine RL.move rfl ?_
    have hst : stepP l s (hts l s k) = none := stepP_of hg hx (wrong0 ho (by omega) (by unfold leftP; omega) (by omega))
    have hn := hts_next hg hst
    refine RL.bs1I rfl rfl sl38 zt3 rfl ?_
    intro bb3 hbb3
    refine RL.app1I (Lz := []) rfl rfl sl38 el_int Try.underlying38 (by rw [List.append_nil]) rfl rfl hrow (by rw [ints_length]; omega) (n := (hts l s k ++ [markN l (hts l s k) k k - 1]).length) (by rw [ints_length]; simp) ?_
    intro A3 cp3 Lr3 hr3
    refine RL.assign rfl ?_
    refine RL.nil ?_
    refine X.blk ?_
    refine X.region rfl ?_
    refine RL.move rfl ?_
    refine RL.add rfl rfl rfl (by omega) ?_
    refine RL.assign rfl ?_
    refine RL.nil ?_
    refine X.hyp ⟨rfl, k + 1, by omega, Lr3, (by repeat (first | exact sb0 _ | exact sb1 _ | (rw [List.append_nil]; exact sb0 _) | exact sb2 _ _ | exact sb3 _ _ _ | apply sb4 | apply sb5 | apply sb6)), A3, cp3, Lr3, ?_, by omega, ?_, ?_, rfl⟩
    · rw [hn]; exact hr3.irow
    · rw [hn]; simp [hg]
    · rw [hn]; exact ⟨rfl, rfl, rfl, rfl, trivial⟩
   replace c13 : ¬ ((_ : Int) ≠ _) := c13
   refine RL.move rfl ?_
   refine RL.skip rfl ?_
   refine RL.skip rfl ?_
   refine RL.skip rfl ?_
   refine RL.skip rfl ?_
   refine RL.skip rfl ?_
   refine RL.pick_f rfl rfl ?_
   refine RL.move rfl ?_
   refine RL.move rfl ?_
   refine RL.move rfl ?_
   refine RL.indexAddr rfl sl78 rfl rfl (hA (by omega)) rfl (by omega) ?_
   refine RL.fieldAddr rfl fd77_0 rfl ?_
   refine RL.loadI rfl sc3 rfl (CellsAt.at (elem_at Ins.len hc hx) rfl) (by simp) ?_
   refine RL.cmp_s rfl rfl rfl rfl (fun c17 => ?_) (fun c17 => ?_)
   ·replace c17 : (_ : Int) = _ := c17
    refine RL.move rfl ?_
    refine RL.move rfl ?_
    refine RL.move rfl ?_
    refine RL.indexAddr rfl sl78 rfl rfl (hA (by omega)) rfl (by omega) ?_
    refine RL.fieldAddr rfl fd77_1 rfl ?_
    refine RL.loadI rfl sc3 rfl (CellsAt.at (elem_at Ins.len hc hx) rfl) (by simp) ?_
    refine RL.move rfl ?_
    refine RL.len rfl sl78 rfl ?_
    refine RL.sub rfl rfl rfl (by omega) ?_
    refine RL.move rfl ?_
    refine RL.sub rfl rfl rfl (by omega) ?_
    refine RL.cmp_s rfl rfl rfl rfl (fun c18 => ?_) (fun c18 => ?_)
    ·replace c18 : (_ : Int) > _ := c18
     refine RL.pick_t rfl rfl ?_
     refine RL.pick_f rfl rfl ?_
     refine RL.nil ?_
     refine X.cond_t rfl ?_
     refine X.seq ?_
     refine X.region rfl ?_
     refine RL.move rfl ?_
     refine RL.move rfl ?_
     refine RL.assign rfl ?_
     refine RL.assign rfl ?_
     refine RL.assign rfl ?_
     refine RL.nil ?_
     refine X.ret ?_
     refine ret3 rfl ?_
     show HRes _ _ _ _
     first
       | exact HRes.mk hrow rfl (by repeat (first | exact sb0 _ | exact sb1 _ | (rw [List.append_nil]; exact sb0 _) | exact sb2 _ _ | exact sb3 _ _ _ | apply sb4 | apply sb5 | apply sb6)) (heightP_wrong hl hg (by omega) (stepP_of hg hx (wrong5 (.inr (by omega)))))
       | exact HRes.mk hrow rfl (by repeat (first | exact sb0 _ | exact sb1 _ | (rw [List.append_nil]; exact sb0 _) | exact sb2 _ _ | exact sb3 _ _ _ | apply sb4 | apply sb5 | apply sb6)) (heightP_wrong hl hg (by omega) (stepP_of hg hx (wrong16 ho (by omega) (by unfold leftP; omega))))
       | exact HRes.mk hrow rfl (by repeat (first | exact sb0 _ | exact sb1 _ | (rw [List.append_nil]; exact sb0 _) | exact sb2 _ _ | exact sb3 _ _ _ | apply sb4 | apply sb5 | apply sb6)) (heightP_wrong hl hg (by omega) (stepP_of hg hx (wrong5c ho (by omega) (by unfold leftP; omega) (by omega))))
    replace c18 : ¬ ((_ : Int) > _) := c18
    refine RL.pick_t rfl rfl ?_
    refine RL.pick_f rfl rfl ?_
    refine RL.nil ?_
    refine X.cond_f rfl ?_
    refine X.skip ?_
    refine X.region rfl ?_
    refine RL.move rfl ?_
    refine RL.move rfl ?_
    have hst : stepP l s (hts l s k) = none := stepP_of hg hx (wrong0 ho (by omega) (by unfold leftP; omega) (by omega))
    have hn := hts_next hg hst
    refine RL.bs1I rfl rfl sl38 zt3 rfl ?_
    intro bb3 hbb3
    refine RL.app1I (Lz := []) rfl rfl sl38 el_int Try.underlying38 (by rw [List.append_nil]) rfl rfl hrow (by rw [ints_length]; omega) (n := (hts l s k ++ [markN l (hts l s k) k k - 1]).length) (by rw [ints_length]; simp) ?_
    intro A3 cp3 Lr3 hr3
    refine RL.assign rfl ?_
    refine RL.nil ?_
    refine X.blk ?_
    refine X.region rfl ?_
    refine RL.move rfl ?_
    refine RL.add rfl rfl rfl (by omega) ?_
    refine RL.assign rfl ?_
    refine RL.nil ?_
    refine X.hyp ⟨rfl, k + 1, by omega, Lr3, (by repeat (first | exact sb0 _ | exact sb1 _ | (rw [List.append_nil]; exact sb0 _) | exact sb2 _ _ | exact sb3 _ _ _ | apply sb4 | apply sb5 | apply sb6)), A3, cp3, Lr3, ?_, by omega, ?_, ?_, rfl⟩
    · rw [hn]; exact hr3.irow
    · rw [hn]; simp [hg]
    · rw [hn]; exact ⟨rfl, rfl, rfl, rfl, trivial⟩
   replace c17 : ¬ ((_ : Int) = _) := c17
   refine RL.move rfl ?_
   refine RL.skip rfl ?_
   refine RL.skip rfl ?_
   refine RL.skip rfl ?_
   refine RL.skip rfl ?_
   refine RL.skip rfl ?_
   refine RL.skip rfl ?_
   refine RL.skip rfl ?_
   refine RL.skip rfl ?_
   refine RL.skip rfl ?_
   refine RL.skip rfl ?_
   refine RL.skip rfl ?_
   refine RL.pick_f rfl rfl ?_
   refine RL.pick_f rfl rfl ?_
   refine RL.nil ?_
   refine X.cond_f rfl ?_
   refine X.skip ?_
   refine X.region rfl ?_
   refine RL.move rfl ?_
   refine RL.move rfl ?_
   have hst : stepP l s (hts l s k) = none := stepP_of hg hx (wrong0 ho (by omega) (by unfold leftP; omega) (by omega))
   have hn := hts_next hg hst
   refine RL.bs1I rfl rfl sl38 zt3 rfl ?_
   intro bb3 hbb3
   refine RL.app1I (Lz := []) rfl rfl sl38 el_int Try.underlying38 (by rw [List.append_nil]) rfl rfl hrow (by rw [ints_length]; omega) (n := (hts l s k ++ [markN l (hts l s k) k k - 1]).length) (by rw [ints_length]; simp) ?_
   intro A3 cp3 Lr3 hr3
   refine RL.assign rfl ?_
   refine RL.nil ?_
   refine X.blk ?_
   refine X.region rfl ?_
   refine RL.move rfl ?_
   refine RL.add rfl rfl rfl (by omega) ?_
   refine RL.assign rfl ?_
   refine RL.nil ?_
   refine X.hyp ⟨rfl, k + 1, by omega, Lr3, (by repeat (first | exact sb0 _ | exact sb1 _ | (rw [List.append_nil]; exact sb0 _) | exact sb2 _ _ | exact sb3 _ _ _ | apply sb4 | apply sb5 | apply sb6)), A3, cp3, Lr3, ?_, by omega, ?_, ?_, rfl⟩
   · rw [hn]; exact hr3.irow
   · rw [hn]; simp [hg]
   · rw [hn]; exact ⟨rfl, rfl, rfl, rfl, trivial⟩
  replace h4 : ¬ ((_ : Int) = _) := h4
  refine RL.nil ?_
  refine X.cond_f rfl ?_
  refine X.skip ?_
  refine X.seq ?_
  refine X.seq ?_
  refine X.region rfl ?_
  refine RL.assign rfl ?_
  refine RL.nil ?_
  refine X.block ?_
  refine X.loop (γ := Nat) (fun k ρ L => k ≤ g ∧ 0 ≤ markN l (hts l s g) k g ∧ Has ρ [(0, .slice A l.length c), (1, .int .i64 s), (7, .slice A2 (hts l s g).length cp), (8, .int .i64 g), (9, .int .i64 (markN l (hts l s g) k g - 1)), (10, .int .i64 k)] ∧ L = Lr) (fun k => g - k) 0 ⟨_, List.Sublist.refl _, Nat.zero_le _, by simp only [markN]; split <;> omega, ⟨rfl, rfl, rfl, rfl, congrArg (Value.int .i64) (show (-1 : Int) = markN l (hts l s g) 0 g - 1 by simp [markN, show ¬ g = 0 by omega]), rfl, trivial⟩, rfl⟩ ?_
  rintro k _ Lr ⟨hk, hm, hρ, rfl⟩
  obtain ⟨base, rfl⟩ := hρ.base
  clear hρ
  refine X.seq ?_
  refine X.seq ?_
  refine X.region rfl ?_
  refine RL.move rfl ?_
  refine RL.move rfl ?_
  refine RL.cmp_s rfl rfl rfl rfl (fun h5 => ?_) (fun h5 => ?_)
  ·replace h5 : (_ : Int) < _ := h5
   obtain ⟨y, hy⟩ : ∃ y, l[k]? = some y := ⟨_, List.getElem?_eq_getElem (by omega)⟩
   obtain ⟨hv, hh⟩ : ∃ hv, (hts l s g)[k]? = some hv := ⟨_, List.getElem?_eq_getElem (by omega)⟩
   have hlr := left_range hh hy
   have hlf : leftP y hv = hv - takeP y.op + layP y.op := rfl
   have htk := takeP_range y.op
   have hly := layP_range y.op
   have hmr := markN_range (l := l) (s := s) (m := g) k g
   have hms := markN_step (t := g) hy hh
   rcases hgo : goesP y k g with _ | _
   ·rw [hgo, if_neg (by simp)] at hms
    refine RL.nil ?_
    refine X.cond_t rfl ?_
    refine X.skip ?_
    refine X.seq ?_
    refine X.block ?_
    refine X.seq ?_
    refine X.seq ?_
    refine X.region rfl ?_
    refine RL.move rfl ?_
    refine RL.move rfl ?_
    refine RL.move rfl ?_
    refine RL.fn0 rfl rfl rfl en56 (fun w hw => (f_goes l hlen A c w (hrd1.st0 hw) k g y hy (by omega)).mono (fun v L h => (by rw [hgo] at h; exact h : v = .bool false))) rfl ?_
    rintro _ _ rfl
    refine RL.not rfl rfl ?_
    refine RL.nil ?_
    refine X.cond_t rfl ?_
    refine X.exit rfl ?_
    refine X.region rfl ?_
    refine RL.move rfl ?_
    refine RL.add rfl rfl rfl (by omega) ?_
    refine RL.assign rfl ?_
    refine RL.nil ?_
    refine X.hyp ⟨rfl, k + 1, by omega, Lr, (by repeat (first | exact sb0 _ | exact sb1 _ | (rw [List.append_nil]; exact sb0 _) | exact sb2 _ _ | exact sb3 _ _ _ | apply sb4 | apply sb5 | apply sb6)), by omega, by rw [hms]; exact hm, ⟨rfl, rfl, rfl, rfl, by rw [hms]; rfl, rfl, trivial⟩, rfl⟩
   rw [hgo, if_pos rfl] at hms
   obtain ⟨b, junk, rfl, rfl⟩ := hrow.open (by omega)
   refine RL.nil ?_
   refine X.cond_t rfl ?_
   refine X.skip ?_
   refine X.seq ?_
   refine X.block ?_
   refine X.seq ?_
   refine X.seq ?_
   refine X.region rfl ?_
   refine RL.move rfl ?_
   refine RL.move rfl ?_
   refine RL.move rfl ?_
   refine RL.fn0 rfl rfl rfl en56 (fun w hw => (f_goes l hlen A c w (hrd1.st0 hw) k g y hy (by omega)).mono (fun v L h => (by rw [hgo] at h; exact h : v = .bool true))) rfl ?_
   rintro _ _ rfl
   refine RL.not rfl rfl ?_
   refine RL.nil ?_
   refine X.cond_f rfl ?_
   refine X.skip ?_
   refine X.seq ?_
   refine X.region rfl ?_
   refine RL.move rfl ?_
   refine RL.move rfl ?_
   refine RL.indexAddr rfl sl78 rfl rfl (hA (by omega)) rfl (by omega) ?_
   refine RL.loadIA rfl ag77 rfl (elem_at Ins.len hc hy) (by simp) (Ins.len _) ?_
   refine RL.move rfl ?_
   refine RL.fn0 rfl rfl rfl en57 (fun w hw => (f_rshape y s w)) rfl ?_
   rintro _ _ rfl
   refine RL.move rfl ?_
   refine RL.extract rfl rfl rfl ?_
   refine RL.extract rfl rfl rfl ?_
   refine RL.extract rfl rfl rfl ?_
   refine RL.assign rfl ?_
   refine RL.assign rfl ?_
   refine RL.assign rfl ?_
   refine RL.nil ?_
   refine X.seq ?_
   refine X.region rfl ?_
   refine RL.move rfl ?_
   refine RL.move rfl ?_
   refine RL.indexAddr rfl sl38 rfl rfl rfl rfl (by omega) ?_
   refine RL.loadO rfl sc3 rfl (ints_app_get hh) ?_
   refine RL.move rfl ?_
   refine RL.sub rfl rfl rfl (by omega) ?_
   refine RL.move rfl ?_
   refine RL.add rfl rfl rfl (by omega) ?_
   refine RL.assign rfl ?_
   refine RL.nil ?_
   refine X.seq ?_
   refine X.seq ?_
   refine X.region rfl ?_
   refine RL.move rfl ?_
   refine RL.cmp_s rfl rfl rfl rfl (fun h6 => ?_) (fun h6 => ?_)
   ·replace h6 : (_ : Int) ≥ _ := h6
    refine RL.move rfl ?_
    refine RL.move rfl ?_
    refine RL.move rfl ?_
    refine RL.cmp_s rfl rfl rfl rfl (fun h7 => ?_) (fun h7 => ?_)
    ·replace h7 : (_ : Int) ≠ _ := h7
     refine RL.pick_t rfl rfl ?_
     refine RL.nil ?_
     refine X.cond_t rfl ?_
     refine X.seq ?_
     refine X.region rfl ?_
     refine RL.move rfl ?_
     refine RL.move rfl ?_
     refine RL.assign rfl ?_
     refine RL.assign rfl ?_
     refine RL.assign rfl ?_
     refine RL.nil ?_
     refine X.ret ?_
     refine ret3 rfl ?_
     show HRes _ _ _ _
     have hcl : markN l (hts l s g) (k + 1) g = -1 := by rw [hms]; unfold mk leftP; rw [if_pos (by omega)]
     exact HRes.mk hrow rfl (by repeat (first | exact List.Sublist.refl _ | exact List.sublist_append_right _ _ | apply List.Sublist.cons | refine List.Sublist.trans ?_ (List.sublist_append_right _ _))) (heightP_wrong hl hg (by omega) (stepP_of hg hx (wrong5 (.inr (.inl (by rw [clash_stays hcl g (by omega)]; omega))))))
    replace h7 : ¬ ((_ : Int) ≠ _) := h7
    refine RL.pick_t rfl rfl ?_
    refine RL.nil ?_
    refine X.cond_f rfl ?_
    refine X.skip ?_
    refine X.region rfl ?_
    refine RL.move rfl ?_
    refine RL.assign rfl ?_
    refine RL.nil ?_
    refine X.blk ?_
    refine X.region rfl ?_
    refine RL.move rfl ?_
    refine RL.add rfl rfl rfl (by omega) ?_
    refine RL.assign rfl ?_
    refine RL.nil ?_
    refine X.hyp ⟨rfl, k + 1, by omega, _, (by repeat (first | exact sb0 _ | exact sb1 _ | (rw [List.append_nil]; exact sb0 _) | exact sb2 _ _ | exact sb3 _ _ _ | apply sb4 | apply sb5 | apply sb6)), by omega, ?_, ⟨rfl, rfl, rfl, rfl, ?_, rfl, trivial⟩, rfl⟩
    · rw [hms]; unfold mk leftP; split <;> omega
    · refine congrArg (Value.int .i64) ?_
      rw [hms]; unfold mk leftP; split <;> omega
   replace h6 : ¬ ((_ : Int) ≥ _) := h6
   refine RL.move rfl ?_
   refine RL.skip rfl ?_
   refine RL.skip rfl ?_
   refine RL.skip rfl ?_
   refine RL.pick_f rfl rfl ?_
   refine RL.nil ?_
   refine X.cond_f rfl ?_
   refine X.skip ?_
   refine X.region rfl ?_
   refine RL.move rfl ?_
   refine RL.assign rfl ?_
   refine RL.nil ?_
   refine X.blk ?_
   refine X.region rfl ?_
   refine RL.move rfl ?_
   refine RL.add rfl rfl rfl (by omega) ?_
   refine RL.assign rfl ?_
   refine RL.nil ?_
   refine X.hyp ⟨rfl, k + 1, by omega, _, (by repeat (first | exact sb0 _ | exact sb1 _ | (rw [List.append_nil]; exact sb0 _) | exact sb2 _ _ | exact sb3 _ _ _ | apply sb4 | apply sb5 | apply sb6)), by omega, ?_, ⟨rfl, rfl, rfl, rfl, ?_, rfl, trivial⟩, rfl⟩
   · rw [hms]; unfold mk leftP; split <;> omega
   · refine congrArg (Value.int .i64) ?_
     rw [hms]; unfold mk leftP; split <;> omega
  replace h5 : ¬ ((_ : Int) < _) := h5
  obtain rfl : k = g := by omega
  have htk := takeP_range x.op
  have hly := layP_range x.op
  have hmr := markN_range (l := l) (s := s) (m := k) k k
  rcases ho : okP x s with _ | _
  ·refine RL.nil ?_
   refine X.cond_f rfl ?_
   refine X.exit rfl ?_
   refine X.seq ?_
   refine X.region rfl ?_
   refine RL.move rfl ?_
   refine RL.move rfl ?_
   refine RL.indexAddr rfl sl78 rfl rfl (hA (by omega)) rfl (by omega) ?_
   refine RL.loadIA rfl ag77 rfl (elem_at Ins.len hc hx) (by simp) (Ins.len _) ?_
   refine RL.move rfl ?_
   refine RL.fn0 rfl rfl rfl en57 (fun w hw => (f_rshape x s w).mono (fun v L h => (by rw [ho] at h; exact h : v = .tuple #[.int .i64 (takeP x.op), .int .i64 (layP x.op), .bool false]))) rfl ?_
   rintro _ _ rfl
   refine RL.drop (L' := Lr) rfl (List.sublist_append_right _ _) ?_
   refine RL.move rfl ?_
   refine RL.extract rfl rfl rfl ?_
   refine RL.extract rfl rfl rfl ?_
   refine RL.extract rfl rfl rfl ?_
   refine RL.assign rfl ?_
   refine RL.assign rfl ?_
   refine RL.assign rfl ?_
   refine RL.nil ?_
   refine X.seq ?_
   refine X.seq ?_
   refine X.region rfl ?_
   refine RL.move rfl ?_
   refine RL.not rfl rfl ?_
   refine RL.move rfl ?_
   refine RL.skip rfl ?_
   refine RL.skip rfl ?_
   refine RL.pick_t rfl rfl ?_
   refine RL.move rfl ?_
   refine RL.skip rfl ?_
   refine RL.skip rfl ?_
   refine RL.skip rfl ?_
   refine RL.pick_t rfl rfl ?_
   refine RL.move rfl ?_
   refine RL.skip rfl ?_
   refine RL.skip rfl ?_
   refine RL.skip rfl ?_
   refine RL.skip rfl ?_
   refine RL.skip rfl ?_
   refine RL.skip rfl ?_
   refine RL.skip rfl ?_
   refine RL.skip rfl ?_
   refine RL.skip rfl ?_
   refine RL.skip rfl ?_
   refine RL.pick_t rfl rfl ?_
   refine RL.nil ?_
   refine X.cond_t rfl ?_
   refine X.seq ?_
   refine X.region rfl ?_
   refine RL.move rfl ?_
   refine RL.move rfl ?_
   refine RL.assign rfl ?_
   refine RL.assign rfl ?_
   refine RL.assign rfl ?_
   refine RL.nil ?_
   refine X.ret ?_
   refine ret3 rfl ?_
   show HRes _ _ _ _
   exact HRes.mk hrow rfl (by repeat (first | exact sb0 _ | exact sb1 _ | (rw [List.append_nil]; exact sb0 _) | exact sb2 _ _ | exact sb3 _ _ _ | apply sb4 | apply sb5 | apply sb6)) (heightP_wrong hl hg (by omega) (stepP_of hg hx (wrong5 (.inl ho))))
  refine RL.nil ?_
  refine X.cond_f rfl ?_
  refine X.exit rfl ?_
  refine X.seq ?_
  refine X.region rfl ?_
  refine RL.move rfl ?_
  refine RL.move rfl ?_
  refine RL.indexAddr rfl sl78 rfl rfl (hA (by omega)) rfl (by omega) ?_
  refine RL.loadIA rfl ag77 rfl (elem_at Ins.len hc hx) (by simp) (Ins.len _) ?_
  refine RL.move rfl ?_
  refine RL.fn0 rfl rfl rfl en57 (fun w hw => (f_rshape x s w).mono (fun v L h => (by rw [ho] at h; exact h : v = .tuple #[.int .i64 (takeP x.op), .int .i64 (layP x.op), .bool true]))) rfl ?_
  rintro _ _ rfl
  refine RL.drop (L' := Lr) rfl (List.sublist_append_right _ _) ?_
  refine RL.move rfl ?_
  refine RL.extract rfl rfl rfl ?_
  refine RL.extract rfl rfl rfl ?_
  refine RL.extract rfl rfl rfl ?_
  refine RL.assign rfl ?_
  refine RL.assign rfl ?_
  refine RL.assign rfl ?_
  refine RL.nil ?_
  refine X.seq ?_
  refine X.seq ?_
  refine X.region rfl ?_
  refine RL.move rfl ?_
  refine RL.not rfl rfl ?_
  refine RL.move rfl ?_
  refine RL.move rfl ?_
  refine RL.cmp_s rfl rfl rfl rfl (fun c19 => ?_) (fun c19 => ?_)
  ·replace c19 : (_ : Int) < _ := c19
   refine RL.pick_f rfl rfl ?_
   refine RL.move rfl ?_
   refine RL.skip rfl ?_
   refine RL.skip rfl ?_
   refine RL.skip rfl ?_
   refine RL.pick_t rfl rfl ?_
   refine RL.move rfl ?_
   refine RL.skip rfl ?_
   refine RL.skip rfl ?_
   refine RL.skip rfl ?_
   refine RL.skip rfl ?_
   refine RL.skip rfl ?_
   refine RL.skip rfl ?_
   refine RL.skip rfl ?_
   refine RL.skip rfl ?_
   refine RL.skip rfl ?_
   refine RL.skip rfl ?_
   refine RL.pick_t rfl rfl ?_
   refine RL.nil ?_
   refine X.cond_t rfl ?_
   refine X.seq ?_
   refine X.region rfl ?_
   refine RL.move rfl ?_
   refine RL.move rfl ?_
   refine RL.assign rfl ?_
   refine RL.assign rfl ?_
   refine RL.assign rfl ?_
   refine RL.nil ?_
   refine X.ret ?_
   refine ret3 rfl ?_
   show HRes _ _ _ _
   first
     | exact HRes.mk hrow rfl (by repeat (first | exact sb0 _ | exact sb1 _ | (rw [List.append_nil]; exact sb0 _) | exact sb2 _ _ | exact sb3 _ _ _ | apply sb4 | apply sb5 | apply sb6)) (heightP_wrong hl hg (by omega) (stepP_of hg hx (wrong5 (.inr (by omega)))))
     | exact HRes.mk hrow rfl (by repeat (first | exact sb0 _ | exact sb1 _ | (rw [List.append_nil]; exact sb0 _) | exact sb2 _ _ | exact sb3 _ _ _ | apply sb4 | apply sb5 | apply sb6)) (heightP_wrong hl hg (by omega) (stepP_of hg hx (wrong16 ho (by omega) (by unfold leftP; omega))))
     | exact HRes.mk hrow rfl (by repeat (first | exact sb0 _ | exact sb1 _ | (rw [List.append_nil]; exact sb0 _) | exact sb2 _ _ | exact sb3 _ _ _ | apply sb4 | apply sb5 | apply sb6)) (heightP_wrong hl hg (by omega) (stepP_of hg hx (wrong5c ho (by omega) (by unfold leftP; omega) (by omega))))
  replace c19 : ¬ ((_ : Int) < _) := c19
  refine RL.pick_f rfl rfl ?_
  refine RL.move rfl ?_
  refine RL.move rfl ?_
  refine RL.move rfl ?_
  refine RL.cmp_s rfl rfl rfl rfl (fun c20 => ?_) (fun c20 => ?_)
  ·replace c20 : (_ : Int) < _ := c20
   refine RL.pick_f rfl rfl ?_
   refine RL.move rfl ?_
   refine RL.skip rfl ?_
   refine RL.skip rfl ?_
   refine RL.skip rfl ?_
   refine RL.skip rfl ?_
   refine RL.skip rfl ?_
   refine RL.skip rfl ?_
   refine RL.skip rfl ?_
   refine RL.skip rfl ?_
   refine RL.skip rfl ?_
   refine RL.skip rfl ?_
   refine RL.pick_t rfl rfl ?_
   refine RL.nil ?_
   refine X.cond_t rfl ?_
   refine X.seq ?_
   refine X.region rfl ?_
   refine RL.move rfl ?_
   refine RL.move rfl ?_
   refine RL.assign rfl ?_
   refine RL.assign rfl ?_
   refine RL.assign rfl ?_
   refine RL.nil ?_
   refine X.ret ?_
   refine ret3 rfl ?_
   show HRes _ _ _ _
   first
     | exact HRes.mk hrow rfl (by repeat (first | exact sb0 _ | exact sb1 _ | (rw [List.append_nil]; exact sb0 _) | exact sb2 _ _ | exact sb3 _ _ _ | apply sb4 | apply sb5 | apply sb6)) (heightP_wrong hl hg (by omega) (stepP_of hg hx (wrong5 (.inr (by omega)))))
     | exact HRes.mk hrow rfl (by repeat (first | exact sb0 _ | exact sb1 _ | (rw [List.append_nil]; exact sb0 _) | exact sb2 _ _ | exact sb3 _ _ _ | apply sb4 | apply sb5 | apply sb6)) (heightP_wrong hl hg (by omega) (stepP_of hg hx (wrong16 ho (by omega) (by unfold leftP; omega))))
     | exact HRes.mk hrow rfl (by repeat (first | exact sb0 _ | exact sb1 _ | (rw [List.append_nil]; exact sb0 _) | exact sb2 _ _ | exact sb3 _ _ _ | apply sb4 | apply sb5 | apply sb6)) (heightP_wrong hl hg (by omega) (stepP_of hg hx (wrong5c ho (by omega) (by unfold leftP; omega) (by omega))))
  replace c20 : ¬ ((_ : Int) < _) := c20
  refine RL.pick_f rfl rfl ?_
  refine RL.move rfl ?_
  refine RL.move rfl ?_
  refine RL.move rfl ?_
  refine RL.indexAddr rfl sl78 rfl rfl (hA (by omega)) rfl (by omega) ?_
  refine RL.fieldAddr rfl fd77_0 rfl ?_
  refine RL.loadI rfl sc3 rfl (CellsAt.at (elem_at Ins.len hc hx) rfl) (by simp) ?_
  refine RL.cmp_s rfl rfl rfl rfl (fun c21 => ?_) (fun c21 => ?_)
  ·replace c21 : (_ : Int) = _ := c21
   refine RL.move rfl ?_
   refine RL.move rfl ?_
   refine RL.cmp_s rfl rfl rfl rfl (fun c22 => ?_) (fun c22 => ?_)
   ·replace c22 : (_ : Int) ≠ _ := c22
    refine RL.pick_t rfl rfl ?_
    refine RL.pick_f rfl rfl ?_
    refine RL.nil ?_
    refine X.cond_t rfl ?_
    refine X.seq ?_
    refine X.region rfl ?_
    refine RL.move rfl ?_
    refine RL.move rfl ?_
    refine RL.assign rfl ?_
    refine RL.assign rfl ?_
    refine RL.assign rfl ?_
    refine RL.nil ?_
    refine X.ret ?_
    refine ret3 rfl ?_
    show HRes _ _ _ _
    first
      | exact HRes.mk hrow rfl (by repeat (first | exact sb0 _ | exact sb1 _ | (rw [List.append_nil]; exact sb0 _) | exact sb2 _ _ | exact sb3 _ _ _ | apply sb4 | apply sb5 | apply sb6)) (heightP_wrong hl hg (by omega) (stepP_of hg hx (wrong5 (.inr (by omega)))))
      | exact HRes.mk hrow rfl (by repeat (first | exact sb0 _ | exact sb1 _ | (rw [List.append_nil]; exact sb0 _) | exact sb2 _ _ | exact sb3 _ _ _ | apply sb4 | apply sb5 | apply sb6)) (heightP_wrong hl hg (by omega) (stepP_of hg hx (wrong16 ho (by omega) (by unfold leftP; omega))))
      | exact HRes.mk hrow rfl (by repeat (first | exact sb0 _ | exact sb1 _ | (rw [List.append_nil]; exact sb0 _) | exact sb2 _ _ | exact sb3 _ _ _ | apply sb4 | apply sb5 | apply sb6)) (heightP_wrong hl hg (by omega) (stepP_of hg hx (wrong5c ho (by omega) (by unfold leftP; omega) (by omega))))
   replace c22 : ¬ ((_ : Int) ≠ _) := c22
   refine RL.pick_t rfl rfl ?_
   refine RL.pick_f rfl rfl ?_
   refine RL.nil ?_
   refine X.cond_f rfl ?_
   refine X.skip ?_
   refine X.seq ?_
   refine X.seq ?_
   refine X.region rfl ?_
   refine RL.move rfl ?_
   refine RL.move rfl ?_
   refine RL.sub rfl rfl rfl (by omega) ?_
   refine RL.move rfl ?_
   refine RL.add rfl rfl rfl (by omega) ?_
   refine RL.cmp_s rfl rfl rfl rfl (fun c23 => ?_) (fun c23 => ?_)
   ·replace c23 : (_ : Int) > _ := c23
    refine RL.nil ?_
    refine X.cond_t rfl ?_
    refine X.seq ?_
    refine X.region rfl ?_
    refine RL.move rfl ?_
    refine RL.move rfl ?_
    refine RL.assign rfl ?_
    refine RL.assign rfl ?_
    refine RL.assign rfl ?_
    refine RL.nil ?_
    refine X.ret ?_
    refine ret3 rfl ?_
    show HRes _ _ _ _
    first
      | exact HRes.mk hrow rfl (by repeat (first | exact sb0 _ | exact sb1 _ | (rw [List.append_nil]; exact sb0 _) | exact sb2 _ _ | exact sb3 _ _ _ | apply sb4 | apply sb5 | apply sb6)) (heightP_wrong hl hg (by omega) (stepP_of hg hx (wrong5 (.inr (by omega)))))
      | exact HRes.mk hrow rfl (by repeat (first | exact sb0 _ | exact sb1 _ | (rw [List.append_nil]; exact sb0 _) | exact sb2 _ _ | exact sb3 _ _ _ | apply sb4 | apply sb5 | apply sb6)) (heightP_wrong hl hg (by omega) (stepP_of hg hx (wrong16 ho (by omega) (by unfold leftP; omega))))
      | exact HRes.mk hrow rfl (by repeat (first | exact sb0 _ | exact sb1 _ | (rw [List.append_nil]; exact sb0 _) | exact sb2 _ _ | exact sb3 _ _ _ | apply sb4 | apply sb5 | apply sb6)) (heightP_wrong hl hg (by omega) (stepP_of hg hx (wrong5c ho (by omega) (by unfold leftP; omega) (by omega))))
   replace c23 : ¬ ((_ : Int) > _) := c23
   refine RL.nil ?_
   refine X.cond_f rfl ?_
   refine X.skip ?_
   refine X.seq ?_
   refine X.seq ?_
   refine X.region rfl ?_
   refine RL.move rfl ?_
   refine RL.move rfl ?_
   refine RL.indexAddr rfl sl78 rfl rfl (hA (by omega)) rfl (by omega) ?_
   refine RL.fieldAddr rfl fd77_0 rfl ?_
   refine RL.loadI rfl sc3 rfl (CellsAt.at (elem_at Ins.len hc hx) rfl) (by simp) ?_
   refine RL.cmp_s rfl rfl rfl rfl (fun c24 => ?_) (fun c24 => ?_)
   ·replace c24 : (_ : Int) ≠ _ := c24
    refine RL.move rfl ?_
    refine RL.move rfl ?_
    refine RL.move rfl ?_
    refine RL.len rfl sl78 rfl ?_
    refine RL.sub rfl rfl rfl (by omega) ?_
    refine RL.cmp_s rfl rfl rfl rfl (fun c25 => ?_) (fun c25 => ?_)
    ·replace c25 : (_ : Int) = _ := c25
     refine RL.pick_t rfl rfl ?_
     refine RL.move rfl ?_
     refine RL.skip rfl ?_
     refine RL.skip rfl ?_
     refine RL.skip rfl ?_
     refine RL.skip rfl ?_
     refine RL.skip rfl ?_
     refine RL.skip rfl ?_
     refine RL.skip rfl ?_
     refine RL.skip rfl ?_
     refine RL.skip rfl ?_
     refine RL.skip rfl ?_
     refine RL.skip rfl ?_
     refine RL.skip rfl ?_
     refine RL.skip rfl ?_
     refine RL.skip rfl ?_
     refine RL.skip rfl ?_
     refine RL.skip rfl ?_
     refine RL.skip rfl ?_
     refine RL.skip rfl ?_
     refine RL.skip rfl ?_
     refine RL.pick_t rfl rfl ?_
     refine RL.nil ?_
     refine X.cond_t rfl ?_
     refine X.seq ?_
     refine X.region rfl ?_
     refine RL.move rfl ?_
     refine RL.move rfl ?_
     refine RL.assign rfl ?_
     refine RL.assign rfl ?_
     refine RL.assign rfl ?_
     refine RL.nil ?_
     refine X.ret ?_
     refine ret3 rfl ?_
     show HRes _ _ _ _
     first
       | exact HRes.mk hrow rfl (by repeat (first | exact sb0 _ | exact sb1 _ | (rw [List.append_nil]; exact sb0 _) | exact sb2 _ _ | exact sb3 _ _ _ | apply sb4 | apply sb5 | apply sb6)) (heightP_wrong hl hg (by omega) (stepP_of hg hx (wrong5 (.inr (by omega)))))
       | exact HRes.mk hrow rfl (by repeat (first | exact sb0 _ | exact sb1 _ | (rw [List.append_nil]; exact sb0 _) | exact sb2 _ _ | exact sb3 _ _ _ | apply sb4 | apply sb5 | apply sb6)) (heightP_wrong hl hg (by omega) (stepP_of hg hx (wrong16 ho (by omega) (by unfold leftP; omega))))
       | exact HRes.mk hrow rfl (by repeat (first | exact sb0 _ | exact sb1 _ | (rw [List.append_nil]; exact sb0 _) | exact sb2 _ _ | exact sb3 _ _ _ | apply sb4 | apply sb5 | apply sb6)) (heightP_wrong hl hg (by omega) (stepP_of hg hx (wrong5c ho (by omega) (by unfold leftP; omega) (by omega))))
    replace c25 : ¬ ((_ : Int) = _) := c25
    refine RL.pick_t rfl rfl ?_
    refine RL.move rfl ?_
    refine RL.move rfl ?_
    refine RL.move rfl ?_
    refine RL.indexAddr rfl sl78 rfl rfl (hA (by omega)) rfl (by omega) ?_
    refine RL.fieldAddr rfl fd77_0 rfl ?_
    refine RL.loadI rfl sc3 rfl (CellsAt.at (elem_at Ins.len hc hx) rfl) (by simp) ?_
    refine RL.cmp_s rfl rfl rfl rfl (fun c26 => ?_) (fun c26 => ?_)
    ·replace c26 : (_ : Int) = _ := c26
     refine RL.move rfl ?_
     refine RL.move rfl ?_
     refine RL.move rfl ?_
     refine RL.indexAddr rfl sl78 rfl rfl (hA (by omega)) rfl (by omega) ?_
     refine RL.fieldAddr rfl fd77_1 rfl ?_
     refine RL.loadI rfl sc3 rfl (CellsAt.at (elem_at Ins.len hc hx) rfl) (by simp) ?_
     refine RL.move rfl ?_
     refine RL.len rfl sl78 rfl ?_
     refine RL.sub rfl rfl rfl (by omega) ?_
     refine RL.move rfl ?_
     refine RL.sub rfl rfl rfl (by omega) ?_
     refine RL.cmp_s rfl rfl rfl rfl (fun c27 => ?_) (fun c27 => ?_)
     ·replace c27 : (_ : Int) > _ := c27
      refine RL.pick_t rfl rfl ?_
      refine RL.pick_f rfl rfl ?_
      refine RL.nil ?_
      refine X.cond_t rfl ?_
      refine X.seq ?_
      refine X.region rfl ?_
      refine RL.move rfl ?_
      refine RL.move rfl ?_
      refine RL.assign rfl ?_
      refine RL.assign rfl ?_
      refine RL.assign rfl ?_
      refine RL.nil ?_
      refine X.ret ?_
      refine ret3 rfl ?_
      show HRes _ _ _ _
      first
        | exact HRes.mk hrow rfl (by repeat (first | exact sb0 _ | exact sb1 _ | (rw [List.append_nil]; exact sb0 _) | exact sb2 _ _ | exact sb3 _ _ _ | apply sb4 | apply sb5 | apply sb6)) (heightP_wrong hl hg (by omega) (stepP_of hg hx (wrong5 (.inr (by omega)))))
        | exact HRes.mk hrow rfl (by repeat (first | exact sb0 _ | exact sb1 _ | (rw [List.append_nil]; exact sb0 _) | exact sb2 _ _ | exact sb3 _ _ _ | apply sb4 | apply sb5 | apply sb6)) (heightP_wrong hl hg (by omega) (stepP_of hg hx (wrong16 ho (by omega) (by unfold leftP; omega))))
        | exact HRes.mk hrow rfl (by repeat (first | exact sb0 _ | exact sb1 _ | (rw [List.append_nil]; exact sb0 _) | exact sb2 _ _ | exact sb3 _ _ _ | apply sb4 | apply sb5 | apply sb6)) (heightP_wrong hl hg (by omega) (stepP_of hg hx (wrong5c ho (by omega) (by unfold leftP; omega) (by omega))))
     replace c27 : ¬ ((_ : Int) > _) := c27
     refine RL.pick_t rfl rfl ?_
     refine RL.pick_f rfl rfl ?_
     refine RL.nil ?_
     refine X.cond_f rfl ?_
     refine X.skip ?_
     refine X.region rfl ?_
     refine RL.move rfl ?_
     refine RL.move rfl ?_
     have hst : stepP l s (hts l s k) = none := stepP_of hg hx (wrong0 ho (by omega) (by unfold leftP; omega) (by omega))
     have hn := hts_next hg hst
     refine RL.bs1I rfl rfl sl38 zt3 rfl ?_
     intro bb3 hbb3
     refine RL.app1I (Lz := []) rfl rfl sl38 el_int Try.underlying38 (by rw [List.append_nil]) rfl rfl hrow (by rw [ints_length]; omega) (n := (hts l s k ++ [markN l (hts l s k) k k - 1]).length) (by rw [ints_length]; simp) ?_
     intro A3 cp3 Lr3 hr3
     refine RL.assign rfl ?_
     refine RL.nil ?_
     refine X.blk ?_
     refine X.region rfl ?_
     refine RL.move rfl ?_
     refine RL.add rfl rfl rfl (by omega) ?_
     refine RL.assign rfl ?_
     refine RL.nil ?_
     refine X.hyp ⟨rfl, k + 1, by omega, Lr3, (by repeat (first | exact sb0 _ | exact sb1 _ | (rw [List.append_nil]; exact sb0 _) | exact sb2 _ _ | exact sb3 _ _ _ | apply sb4 | apply sb5 | apply sb6)), A3, cp3, Lr3, ?_, by omega, ?_, ?_, rfl⟩
     · rw [hn]; exact hr3.irow
     · rw [hn]; simp [hg]
     · rw [hn]; exact ⟨rfl, rfl, rfl, rfl, trivial⟩
    replace c26 : ¬ ((_ : Int) = _) := c26
    refine RL.move rfl ?_
    refine RL.skip rfl ?_
    refine RL.skip rfl ?_
    refine RL.skip rfl ?_
    refine RL.skip rfl ?_
    refine RL.skip rfl ?_
    refine RL.skip rfl ?_
    refine RL.skip rfl ?_
    refine RL.skip rfl ?_
    refine RL.skip rfl ?_
    refine RL.skip rfl ?_
    refine RL.skip rfl ?_
    refine RL.pick_f rfl rfl ?_
    refine RL.pick_f rfl rfl ?_
    refine RL.nil ?_
    refine X.cond_f rfl ?_
    refine X.skip ?_
    refine X.region rfl ?_
    refine RL.move rfl ?_
    refine RL.move rfl ?_
    have hst : stepP l s (hts l s k) = none := stepP_of hg hx (wrong0 ho (by omega) (by unfold leftP; omega) (by omega))
    have hn := hts_next hg hst
    refine RL.bs1I rfl rfl sl38 zt3 rfl ?_
    intro bb3 hbb3
    refine RL.app1I (Lz := []) rfl rfl sl38 el_int Try.underlying38 (by rw [List.append_nil]) rfl rfl hrow (by rw [ints_length]; omega) (n := (hts l s k ++ [markN l (hts l s k) k k - 1]).length) (by rw [ints_length]; simp) ?_
    intro A3 cp3 Lr3 hr3
    refine RL.assign rfl ?_
    refine RL.nil ?_
    refine X.blk ?_
    refine X.region rfl ?_
    refine RL.move rfl ?_
    refine RL.add rfl rfl rfl (by omega) ?_
    refine RL.assign rfl ?_
    refine RL.nil ?_
    refine X.hyp ⟨rfl, k + 1, by omega, Lr3, (by repeat (first | exact sb0 _ | exact sb1 _ | (rw [List.append_nil]; exact sb0 _) | exact sb2 _ _ | exact sb3 _ _ _ | apply sb4 | apply sb5 | apply sb6)), A3, cp3, Lr3, ?_, by omega, ?_, ?_, rfl⟩
    · rw [hn]; exact hr3.irow
    · rw [hn]; simp [hg]
    · rw [hn]; exact ⟨rfl, rfl, rfl, rfl, trivial⟩
   replace c24 : ¬ ((_ : Int) ≠ _) := c24
   refine RL.move rfl ?_
   refine RL.skip rfl ?_
   refine RL.skip rfl ?_
   refine RL.skip rfl ?_
   refine RL.skip rfl ?_
   refine RL.skip rfl ?_
   refine RL.pick_f rfl rfl ?_
   refine RL.move rfl ?_
   refine RL.move rfl ?_
   refine RL.move rfl ?_
   refine RL.indexAddr rfl sl78 rfl rfl (hA (by omega)) rfl (by omega) ?_
   refine RL.fieldAddr rfl fd77_0 rfl ?_
   refine RL.loadI rfl sc3 rfl (CellsAt.at (elem_at Ins.len hc hx) rfl) (by simp) ?_
   refine RL.cmp_s rfl rfl rfl rfl (fun c28 => ?_) (fun c28 => ?_)
   ·replace c28 : (_ : Int) = _ := c28
    refine RL.move rfl ?_
    refine RL.move rfl ?_
    refine RL.move rfl ?_
    refine RL.indexAddr rfl sl78 rfl rfl (hA (by omega)) rfl (by omega) ?_
    refine RL.fieldAddr rfl fd77_1 rfl ?_
    refine RL.loadI rfl sc3 rfl (CellsAt.at (elem_at Ins.len hc hx) rfl) (by simp) ?_
    refine RL.move rfl ?_
    refine RL.len rfl sl78 rfl ?_
    refine RL.sub rfl rfl rfl (by omega) ?_
    refine RL.move rfl ?_
    refine RL.sub rfl rfl rfl (by omega) ?_
    refine RL.cmp_s rfl rfl rfl rfl (fun c29 => ?_) (fun c29 => ?_)
    ·replace c29 : (_ : Int) > _ := c29
     refine RL.pick_t rfl rfl ?_
     refine RL.pick_f rfl rfl ?_
     refine RL.nil ?_
     refine X.cond_t rfl ?_
     refine X.seq ?_
     refine X.region rfl ?_
     refine RL.move rfl ?_
     refine RL.move rfl ?_
     refine RL.assign rfl ?_
     refine RL.assign rfl ?_
     refine RL.assign rfl ?_
     refine RL.nil ?_
     refine X.ret ?_
     refine ret3 rfl ?_
     show HRes _ _ _ _
     first
       | exact HRes.mk hrow rfl (by repeat (first | exact sb0 _ | exact sb1 _ | (rw [List.append_nil]; exact sb0 _) | exact sb2 _ _ | exact sb3 _ _ _ | apply sb4 | apply sb5 | apply sb6)) (heightP_wrong hl hg (by omega) (stepP_of hg hx (wrong5 (.inr (by omega)))))
       | exact HRes.mk hrow rfl (by repeat (first | exact sb0 _ | exact sb1 _ | (rw [List.append_nil]; exact sb0 _) | exact sb2 _ _ | exact sb3 _ _ _ | apply sb4 | apply sb5 | apply sb6)) (heightP_wrong hl hg (by omega) (stepP_of hg hx (wrong16 ho (by omega) (by unfold leftP; omega))))
       | exact HRes.mk hrow rfl (by repeat (first | exact sb0 _ | exact sb1 _ | (rw [List.append_nil]; exact sb0 _) | exact sb2 _ _ | exact sb3 _ _ _ | apply sb4 | apply sb5 | apply sb6)) (heightP_wrong hl hg (by omega) (stepP_of hg hx (wrong5c ho (by omega) (by unfold leftP; omega) (by omega))))
    replace c29 : ¬ ((_ : Int) > _) := c29
    refine RL.pick_t rfl rfl ?_
    refine RL.pick_f rfl rfl ?_
    refine RL.nil ?_
    refine X.cond_f rfl ?_
    refine X.skip ?_
    refine X.region rfl ?_
    refine RL.move rfl ?_
    refine RL.move rfl ?_
    have hst : stepP l s (hts l s k) = none := stepP_of hg hx (wrong0 ho (by omega) (by unfold leftP; omega) (by omega))
    have hn := hts_next hg hst
    refine RL.bs1I rfl rfl sl38 zt3 rfl ?_
    intro bb3 hbb3
    refine RL.app1I (Lz := []) rfl rfl sl38 el_int Try.underlying38 (by rw [List.append_nil]) rfl rfl hrow (by rw [ints_length]; omega) (n := (hts l s k ++ [markN l (hts l s k) k k - 1]).length) (by rw [ints_length]; simp) ?_
    intro A3 cp3 Lr3 hr3
    refine RL.assign rfl ?_
    refine RL.nil ?_
    refine X.blk ?_
    refine X.region rfl ?_
    refine RL.move rfl ?_
    refine RL.add rfl rfl rfl (by omega) ?_
    refine RL.assign rfl ?_
    refine RL.nil ?_
    refine X.hyp ⟨rfl, k + 1, by omega, Lr3, (by repeat (first | exact sb0 _ | exact sb1 _ | (rw [List.append_nil]; exact sb0 _) | exact sb2 _ _ | exact sb3 _ _ _ | apply sb4 | apply sb5 | apply sb6)), A3, cp3, Lr3, ?_, by omega, ?_, ?_, rfl⟩
    · rw [hn]; exact hr3.irow
    · rw [hn]; simp [hg]
    · rw [hn]; exact ⟨rfl, rfl, rfl, rfl, trivial⟩
   replace c28 : ¬ ((_ : Int) = _) := c28
   refine RL.move rfl ?_
   refine RL.skip rfl ?_
   refine RL.skip rfl ?_
   refine RL.skip rfl ?_
   refine RL.skip rfl ?_
   refine RL.skip rfl ?_
   refine RL.skip rfl ?_
   refine RL.skip rfl ?_
   refine RL.skip rfl ?_
   refine RL.skip rfl ?_
   refine RL.skip rfl ?_
   refine RL.skip rfl ?_
   refine RL.pick_f rfl rfl ?_
   refine RL.pick_f rfl rfl ?_
   refine RL.nil ?_
   refine X.cond_f rfl ?_
   refine X.skip ?_
   refine X.region rfl ?_
   refine RL.move rfl ?_
   refine RL.move rfl ?_
   have hst : stepP l s (hts l s k) = none := stepP_of hg hx (wrong0 ho (by omega) (by unfold leftP; omega) (by omega))
   have hn := hts_next hg hst
   refine RL.bs1I rfl rfl sl38 zt3 rfl ?_
   intro bb3 hbb3
   refine RL.app1I (Lz := []) rfl rfl sl38 el_int Try.underlying38 (by rw [List.append_nil]) rfl rfl hrow (by rw [ints_length]; omega) (n := (hts l s k ++ [markN l (hts l s k) k k - 1]).length) (by rw [ints_length]; simp) ?_
   intro A3 cp3 Lr3 hr3
   refine RL.assign rfl ?_
   refine RL.nil ?_
   refine X.blk ?_
   refine X.region rfl ?_
   refine RL.move rfl ?_
   refine RL.add rfl rfl rfl (by omega) ?_
   refine RL.assign rfl ?_
   refine RL.nil ?_
   refine X.hyp ⟨rfl, k + 1, by omega, Lr3, (by repeat (first | exact sb0 _ | exact sb1 _ | (rw [List.append_nil]; exact sb0 _) | exact sb2 _ _ | exact sb3 _ _ _ | apply sb4 | apply sb5 | apply sb6)), A3, cp3, Lr3, ?_, by omega, ?_, ?_, rfl⟩
   · rw [hn]; exact hr3.irow
   · rw [hn]; simp [hg]
   · rw [hn]; exact ⟨rfl, rfl, rfl, rfl, trivial⟩
  replace c21 : ¬ ((_ : Int) = _) := c21
  refine RL.move rfl ?_
  refine RL.skip rfl ?_
  refine RL.skip rfl ?_
  refine RL.pick_f rfl rfl ?_
  refine RL.pick_f rfl rfl ?_
  refine RL.nil ?_
  refine X.cond_f rfl ?_
  refine X.skip ?_
  refine X.seq ?_
  refine X.seq ?_
  refine X.region rfl ?_
  refine RL.move rfl ?_
  refine RL.move rfl ?_
  refine RL.sub rfl rfl rfl (by omega) ?_
  refine RL.move rfl ?_
  refine RL.add rfl rfl rfl (by omega) ?_
  refine RL.cmp_s rfl rfl rfl rfl (fun c30 => ?_) (fun c30 => ?_)
  ·replace c30 : (_ : Int) > _ := c30
   refine RL.nil ?_
   refine X.cond_t rfl ?_
   refine X.seq ?_
   refine X.region rfl ?_
   refine RL.move rfl ?_
   refine RL.move rfl ?_
   refine RL.assign rfl ?_
   refine RL.assign rfl ?_
   refine RL.assign rfl ?_
   refine RL.nil ?_
   refine X.ret ?_
   refine ret3 rfl ?_
   show HRes _ _ _ _
   first
     | exact HRes.mk hrow rfl (by repeat (first | exact sb0 _ | exact sb1 _ | (rw [List.append_nil]; exact sb0 _) | exact sb2 _ _ | exact sb3 _ _ _ | apply sb4 | apply sb5 | apply sb6)) (heightP_wrong hl hg (by omega) (stepP_of hg hx (wrong5 (.inr (by omega)))))
     | exact HRes.mk hrow rfl (by repeat (first | exact sb0 _ | exact sb1 _ | (rw [List.append_nil]; exact sb0 _) | exact sb2 _ _ | exact sb3 _ _ _ | apply sb4 | apply sb5 | apply sb6)) (heightP_wrong hl hg (by omega) (stepP_of hg hx (wrong16 ho (by omega) (by unfold leftP; omega))))
     | exact HRes.mk hrow rfl (by repeat (first | exact sb0 _ | exact sb1 _ | (rw [List.append_nil]; exact sb0 _) | exact sb2 _ _ | exact sb3 _ _ _ | apply sb4 | apply sb5 | apply sb6)) (heightP_wrong hl hg (by omega) (stepP_of hg hx (wrong5c ho (by omega) (by unfold leftP; omega) (by omega))))
  replace c30 : ¬ ((_ : Int) > _) := c30
  refine RL.nil ?_
  refine X.cond_f rfl ?_
  refine X.skip ?_
  refine X.seq ?_
  refine X.seq ?_
  refine X.region rfl ?_
  refine RL.move rfl ?_
  refine RL.move rfl ?_
  refine RL.indexAddr rfl sl78 rfl rfl (hA (by omega)) rfl (by omega) ?_
  refine RL.fieldAddr rfl fd77_0 rfl ?_
  refine RL.loadI rfl sc3 rfl (CellsAt.at (elem_at Ins.len hc hx) rfl) (by simp) ?_
  refine RL.cmp_s rfl rfl rfl rfl (fun c31 => ?_) (fun c31 => ?_)
  ·replace c31 : (_ : Int) ≠ _ := c31
   refine RL.move rfl ?_
   refine RL.move rfl ?_
   refine RL.move rfl ?_
   refine RL.len rfl sl78 rfl ?_
   refine RL.sub rfl rfl rfl (by omega) ?_
   refine RL.cmp_s rfl rfl rfl rfl (fun c32 => ?_) (fun c32 => ?_)
   ·replace c32 : (_ : Int) = _ := c32
    refine RL.pick_t rfl rfl ?_
    refine RL.move rfl ?_
    refine RL.skip rfl ?_
    refine RL.skip rfl ?_
    refine RL.skip rfl ?_
    refine RL.skip rfl ?_
    refine RL.skip rfl ?_
    refine RL.skip rfl ?_
    refine RL.skip rfl ?_
    refine RL.skip rfl ?_
    refine RL.skip rfl ?_
    refine RL.skip rfl ?_
    refine RL.skip rfl ?_
    refine RL.skip rfl ?_
    refine RL.skip rfl ?_
    refine RL.skip rfl ?_
    refine RL.skip rfl ?_
    refine RL.skip rfl ?_
    refine RL.skip rfl ?_
    refine RL.skip rfl ?_
    refine RL.skip rfl ?_
    refine RL.pick_t rfl rfl ?_
    refine RL.nil ?_
    refine X.cond_t rfl ?_
    refine X.seq ?_
    refine X.region rfl ?_
    refine RL.move rfl ?_
    refine RL.move rfl ?_
    refine RL.assign rfl ?_
    refine RL.assign rfl ?_
    refine RL.assign rfl ?_
    refine RL.nil ?_
    refine X.ret ?_
    refine ret3 rfl ?_
    show HRes _ _ _ _
    first
      | exact HRes.mk hrow rfl (by repeat (first | exact sb0 _ | exact sb1 _ | (rw [List.append_nil]; exact sb0 _) | exact sb2 _ _ | exact sb3 _ _ _ | apply sb4 | apply sb5 | apply sb6)) (heightP_wrong hl hg (by omega) (stepP_of hg hx (wrong5 (.inr (by omega)))))
      | exact HRes.mk hrow rfl (by repeat (first | exact sb0 _ | exact sb1 _ | (rw [List.append_nil]; exact sb0 _) | exact sb2 _ _ | exact sb3 _ _ _ | apply sb4 | apply sb5 | apply sb6)) (heightP_wrong hl hg (by omega) (stepP_of hg hx (wrong16 ho (by omega) (by unfold leftP; omega))))
      | exact HRes.mk hrow rfl (by repeat (first | exact sb0 _ | exact sb1 _ | (rw [List.append_nil]; exact sb0 _) | exact sb2 _ _ | exact sb3 _ _ _ | apply sb4 | apply sb5 | apply sb6)) (heightP_wrong hl hg (by omega) (stepP_of hg hx (wrong5c ho (by omega) (by unfold leftP; omega) (by omega))))
   replace c32 : ¬ ((_ : Int) = _) := c32
   refine RL.pick_t rfl rfl ?_
   refine RL.move rfl ?_
   refine RL.move rfl ?_
   refine RL.move rfl ?_
   refine RL.indexAddr rfl sl78 rfl rfl (hA (by omega)) rfl (by omega) ?_
   refine RL.fieldAddr rfl fd77_0 rfl ?_
   refine RL.loadI rfl sc3 rfl (CellsAt.at (elem_at Ins.len hc hx) rfl) (by simp) ?_
   refine RL.cmp_s rfl rfl rfl rfl (fun c33 => ?_) (fun c33 => ?_)
   ·replace c33 : (_ : Int) = _ := c33
    refine RL.move rfl ?_
    refine RL.move rfl ?_
    refine RL.move rfl ?_
    refine RL.indexAddr rfl sl78 rfl rfl (hA (by omega)) rfl (by omega) ?_
    refine RL.fieldAddr rfl fd77_1 rfl ?_
    refine RL.loadI rfl sc3 rfl (CellsAt.at (elem_at Ins.len hc hx) rfl) (by simp) ?_
    refine RL.move rfl ?_
    refine RL.len rfl sl78 rfl ?_
    refine RL.sub rfl rfl rfl (by omega) ?_
    refine RL.move rfl ?_
    refine RL.sub rfl rfl rfl (by omega) ?_
    refine RL.cmp_s rfl rfl rfl rfl (fun c34 => ?_) (fun c34 => ?_)
    ·replace c34 : (_ : Int) > _ := c34
     refine RL.pick_t rfl rfl ?_
     refine RL.pick_f rfl rfl ?_
     refine RL.nil ?_
     refine X.cond_t rfl ?_
     refine X.seq ?_
     refine X.region rfl ?_
     refine RL.move rfl ?_
     refine RL.move rfl ?_
     refine RL.assign rfl ?_
     refine RL.assign rfl ?_
     refine RL.assign rfl ?_
     refine RL.nil ?_
     refine X.ret ?_
     refine ret3 rfl ?_
     show HRes _ _ _ _
     first
       | exact HRes.mk hrow rfl (by repeat (first | exact sb0 _ | exact sb1 _ | (rw [List.append_nil]; exact sb0 _) | exact sb2 _ _ | exact sb3 _ _ _ | apply sb4 | apply sb5 | apply sb6)) (heightP_wrong hl hg (by omega) (stepP_of hg hx (wrong5 (.inr (by omega)))))
       | exact HRes.mk hrow rfl (by repeat (first | exact sb0 _ | exact sb1 _ | (rw [List.append_nil]; exact sb0 _) | exact sb2 _ _ | exact sb3 _ _ _ | apply sb4 | apply sb5 | apply sb6)) (heightP_wrong hl hg (by omega) (stepP_of hg hx (wrong16 ho (by omega) (by unfold leftP; omega))))
       | exact HRes.mk hrow rfl (by repeat (first | exact sb0 _ | exact sb1 _ | (rw [List.append_nil]; exact sb0 _) | exact sb2 _ _ | exact sb3 _ _ _ | apply sb4 | apply sb5 | apply sb6)) (heightP_wrong hl hg (by omega) (stepP_of hg hx (wrong5c ho (by omega) (by unfold leftP; omega) (by omega))))
    replace c34 : ¬ ((_ : Int) > _) := c34
    refine RL.pick_t rfl rfl ?_
    refine RL.pick_f rfl rfl ?_
    refine RL.nil ?_
    refine X.cond_f rfl ?_
    refine X.skip ?_
    refine X.region rfl ?_
    refine RL.move rfl ?_
    refine RL.move rfl ?_
    have hst : stepP l s (hts l s k) = none := stepP_of hg hx (wrong0 ho (by omega) (by unfold leftP; omega) (by omega))
    have hn := hts_next hg hst
    refine RL.bs1I rfl rfl sl38 zt3 rfl ?_
    intro bb3 hbb3
    refine RL.app1I (Lz := []) rfl rfl sl38 el_int Try.underlying38 (by rw [List.append_nil]) rfl rfl hrow (by rw [ints_length]; omega) (n := (hts l s k ++ [markN l (hts l s k) k k - 1]).length) (by rw [ints_length]; simp) ?_
    intro A3 cp3 Lr3 hr3
    refine RL.assign rfl ?_
    refine RL.nil ?_
    refine X.blk ?_
    refine X.region rfl ?_
    refine RL.move rfl ?_
    refine RL.add rfl rfl rfl (by omega) ?_
    refine RL.assign rfl ?_
    refine RL.nil ?_
    refine X.hyp ⟨rfl, k + 1, by omega, Lr3, (by repeat (first | exact sb0 _ | exact sb1 _ | (rw [List.append_nil]; exact sb0 _) | exact sb2 _ _ | exact sb3 _ _ _ | apply sb4 | apply sb5 | apply sb6)), A3, cp3, Lr3, ?_, by omega, ?_, ?_, rfl⟩
    · rw [hn]; exact hr3.irow
    · rw [hn]; simp [hg]
    · rw [hn]; exact ⟨rfl, rfl, rfl, rfl, trivial⟩
   replace c33 : ¬ ((_ : Int) = _) := c33
   refine RL.move rfl ?_
   refine RL.skip rfl ?_
   refine RL.skip rfl ?_
   refine RL.skip rfl ?_
   refine RL.skip rfl ?_
   refine RL.skip rfl ?_
   refine RL.skip rfl ?_
   refine RL.skip rfl ?_
   refine RL.skip rfl ?_
   refine RL.skip rfl ?_
   refine RL.skip rfl ?_
   refine RL.skip rfl ?_
   refine RL.pick_f rfl rfl ?_
   refine RL.pick_f rfl rfl ?_
   refine RL.nil ?_
   refine X.cond_f rfl ?_
   refine X.skip ?_
   refine X.region rfl ?_
   refine RL.move rfl ?_
   refine RL.move rfl ?_
   have hst : stepP l s (hts l s k) = none := stepP_of hg hx (wrong0 ho (by omega) (by unfold leftP; omega) (by omega))
   have hn := hts_next hg hst
   refine RL.bs1I rfl rfl sl38 zt3 rfl ?_
   intro bb3 hbb3
   refine RL.app1I (Lz := []) rfl rfl sl38 el_int Try.underlying38 (by rw [List.append_nil]) rfl rfl hrow (by rw [ints_length]; omega) (n := (hts l s k ++ [markN l (hts l s k) k k - 1]).length) (by rw [ints_length]; simp) ?_
   intro A3 cp3 Lr3 hr3
   refine RL.assign rfl ?_
   refine RL.nil ?_
   refine X.blk ?_
   refine X.region rfl ?_
   refine RL.move rfl ?_
   refine RL.add rfl rfl rfl (by omega) ?_
   refine RL.assign rfl ?_
   refine RL.nil ?_
   refine X.hyp ⟨rfl, k + 1, by omega, Lr3, (by repeat (first | exact sb0 _ | exact sb1 _ | (rw [List.append_nil]; exact sb0 _) | exact sb2 _ _ | exact sb3 _ _ _ | apply sb4 | apply sb5 | apply sb6)), A3, cp3, Lr3, ?_, by omega, ?_, ?_, rfl⟩
   · rw [hn]; exact hr3.irow
   · rw [hn]; simp [hg]
   · rw [hn]; exact ⟨rfl, rfl, rfl, rfl, trivial⟩
  replace c31 : ¬ ((_ : Int) ≠ _) := c31
  refine RL.move rfl ?_
  refine RL.skip rfl ?_
  refine RL.skip rfl ?_
  refine RL.skip rfl ?_
  refine RL.skip rfl ?_
  refine RL.skip rfl ?_
  refine RL.pick_f rfl rfl ?_
  refine RL.move rfl ?_
  refine RL.move rfl ?_
  refine RL.move rfl ?_
  refine RL.indexAddr rfl sl78 rfl rfl (hA (by omega)) rfl (by omega) ?_
  refine RL.fieldAddr rfl fd77_0 rfl ?_
  refine RL.loadI rfl sc3 rfl (CellsAt.at (elem_at Ins.len hc hx) rfl) (by simp) ?_
  refine RL.cmp_s rfl rfl rfl rfl (fun c35 => ?_) (fun c35 => ?_)
  ·replace c35 : (_ : Int) = _ := c35
   refine RL.move rfl ?_
   refine RL.move rfl ?_
   refine RL.move rfl ?_
   refine RL.indexAddr rfl sl78 rfl rfl (hA (by omega)) rfl (by omega) ?_
   refine RL.fieldAddr rfl fd77_1 rfl ?_
   refine RL.loadI rfl sc3 rfl (CellsAt.at (elem_at Ins.len hc hx) rfl) (by simp) ?_
   refine RL.move rfl ?_
   refine RL.len rfl sl78 rfl ?_
   refine RL.sub rfl rfl rfl (by omega) ?_
   refine RL.move rfl ?_
   refine RL.sub rfl rfl rfl (by omega) ?_
   refine RL.cmp_s rfl rfl rfl rfl (fun c36 => ?_) (fun c36 => ?_)
   ·replace c36 : (_ : Int) > _ := c36
    refine RL.pick_t rfl rfl ?_
    refine RL.pick_f rfl rfl ?_
    refine RL.nil ?_
    refine X.cond_t rfl ?_
    refine X.seq ?_
    refine X.region rfl ?_
    refine RL.move rfl ?_
    refine RL.move rfl ?_
    refine RL.assign rfl ?_
    refine RL.assign rfl ?_
    refine RL.assign rfl ?_
    refine RL.nil ?_
    refine X.ret ?_
    refine ret3 rfl ?_
    show HRes _ _ _ _
    first
      | exact HRes.mk hrow rfl (by repeat (first | exact sb0 _ | exact sb1 _ | (rw [List.append_nil]; exact sb0 _) | exact sb2 _ _ | exact sb3 _ _ _ | apply sb4 | apply sb5 | apply sb6)) (heightP_wrong hl hg (by omega) (stepP_of hg hx (wrong5 (.inr (by omega)))))
      | exact HRes.mk hrow rfl (by repeat (first | exact sb0 _ | exact sb1 _ | (rw [List.append_nil]; exact sb0 _) | exact sb2 _ _ | exact sb3 _ _ _ | apply sb4 | apply sb5 | apply sb6)) (heightP_wrong hl hg (by omega) (stepP_of hg hx (wrong16 ho (by omega) (by unfold leftP; omega))))
      | exact HRes.mk hrow rfl (by repeat (first | exact sb0 _ | exact sb1 _ | (rw [List.append_nil]; exact sb0 _) | exact sb2 _ _ | exact sb3 _ _ _ | apply sb4 | apply sb5 | apply sb6)) (heightP_wrong hl hg (by omega) (stepP_of hg hx (wrong5c ho (by omega) (by unfold leftP; omega) (by omega))))
   replace c36 : ¬ ((_ : Int) > _) := c36
   refine RL.pick_t rfl rfl ?_
   refine RL.pick_f rfl rfl ?_
   refine RL.nil ?_
   refine X.cond_f rfl ?_
   refine X.skip ?_
   refine X.region rfl ?_
   refine RL.move rfl ?_
   refine RL.move rfl ?_
   have hst : stepP l s (hts l s k) = none := stepP_of hg hx (wrong0 ho (by omega) (by unfold leftP; omega) (by omega))
   have hn := hts_next hg hst
   refine RL.bs1I rfl rfl sl38 zt3 rfl ?_
   intro bb3 hbb3
   refine RL.app1I (Lz := []) rfl rfl sl38 el_int Try.underlying38 (by rw [List.append_nil]) rfl rfl hrow (by rw [ints_length]; omega) (n := (hts l s k ++ [markN l (hts l s k) k k - 1]).length) (by rw [ints_length]; simp) ?_
   intro A3 cp3 Lr3 hr3
   refine RL.assign rfl ?_
   refine RL.nil ?_
   refine X.blk ?_
   refine X.region rfl ?_
   refine RL.move rfl ?_
   refine RL.add rfl rfl rfl (by omega) ?_
   refine RL.assign rfl ?_
   refine RL.nil ?_
   refine X.hyp ⟨rfl, k + 1, by omega, Lr3, (by repeat (first | exact sb0 _ | exact sb1 _ | (rw [List.append_nil]; exact sb0 _) | exact sb2 _ _ | exact sb3 _ _ _ | apply sb4 | apply sb5 | apply sb6)), A3, cp3, Lr3, ?_, by omega, ?_, ?_, rfl⟩
   · rw [hn]; exact hr3.irow
   · rw [hn]; simp [hg]
   · rw [hn]; exact ⟨rfl, rfl, rfl, rfl, trivial⟩
  replace c35 : ¬ ((_ : Int) = _) := c35
  refine RL.move rfl ?_
  refine RL.skip rfl ?_
  refine RL.skip rfl ?_
  refine RL.skip rfl ?_
  refine RL.skip rfl ?_
  refine RL.skip rfl ?_
  refine RL.skip rfl ?_
  refine RL.skip rfl ?_
  refine RL.skip rfl ?_
  refine RL.skip rfl ?_
  refine RL.skip rfl ?_
  refine RL.skip rfl ?_
  refine RL.pick_f rfl rfl ?_
  refine RL.pick_f rfl rfl ?_
  refine RL.nil ?_
  refine X.cond_f rfl ?_
  refine X.skip ?_
  refine X.region rfl ?_
  refine RL.move rfl ?_
  refine RL.move rfl ?_
  have hst : stepP l s (hts l s k) = none := stepP_of hg hx (wrong0 ho (by omega) (by unfold leftP; omega) (by omega))
  have hn := hts_next hg hst
  refine RL.bs1I rfl rfl sl38 zt3 rfl ?_
  intro bb3 hbb3
  refine RL.app1I (Lz := []) rfl rfl sl38 el_int Try.underlying38 (by rw [List.append_nil]) rfl rfl hrow (by rw [ints_length]; omega) (n := (hts l s k ++ [markN l (hts l s k) k k - 1]).length) (by rw [ints_length]; simp) ?_
  intro A3 cp3 Lr3 hr3
  refine RL.assign rfl ?_
  refine RL.nil ?_
  refine X.blk ?_
  refine X.region rfl ?_
  refine RL.move rfl ?_
  refine RL.add rfl rfl rfl (by omega) ?_
  refine RL.assign rfl ?_
  refine RL.nil ?_
  refine X.hyp ⟨rfl, k + 1, by omega, Lr3, (by repeat (first | exact sb0 _ | exact sb1 _ | (rw [List.append_nil]; exact sb0 _) | exact sb2 _ _ | exact sb3 _ _ _ | apply sb4 | apply sb5 | apply sb6)), A3, cp3, Lr3, ?_, by omega, ?_, ?_, rfl⟩
  · rw [hn]; exact hr3.irow
  · rw [hn]; simp [hg]
  · rw [hn]; exact ⟨rfl, rfl, rfl, rfl, trivial⟩
 replace h3 : ¬ ((_ : Int) < _) := h3
 obtain rfl : g = l.length := by omega
 refine RL.nil ?_
 refine X.cond_f rfl ?_
 refine X.exit rfl ?_
 refine X.seq ?_
 refine X.region rfl ?_
 refine RL.move rfl ?_
 refine RL.assign rfl ?_
 refine RL.assign rfl ?_
 refine RL.assign rfl ?_
 refine RL.nil ?_
 refine X.ret ?_
 refine ret3 rfl ?_
 show HRes _ _ _ _
 exact HRes.mk hrow rfl (List.Sublist.refl _) (heightP_ok hl hg)
set_option maxHeartbeats 2000000 in
set_option maxRecDepth 20000 in
theorem f_walk (l : List Ins) (hlen : l.length ≤ 1000) (A : Option Addr) (c : Nat) (bb oo : Nat) (w : World) (hA : 0 < l.length → A = some ⟨bb, oo, none⟩) (hc : CellsAt w bb oo (icells l)) (s : Int) (f : Nat) (caps : List Value)
    (hf : ∀ args w, (callFunc f args).run Try.prog w = .ok (.enter f args) w) (LJ : List Ent) (J Jx : List Vis → List Ent → Prop) (hown : ∀ p ∈ LJ, w.heap[p.1]? = some p.2) (hnd : (keys LJ).Nodup) (hbb : 0 < l.length → bb ∉ keys LJ) (hJ0 : J [] LJ)
    (hcb : ∀ pre x rest LJ2 Lo w1, visP l s = pre ++ x :: rest → J pre LJ2 → St w (keys LJ) w1 (LJ2 ++ Lo) → Ctr Try.prog f ([.int .i64 x.1, .int .i64 x.2.1, .int .i64 x.2.2] ++ caps) w1 LJ2 fun v L => ∃ b : Bool, v = .bool b ∧ ((b = true ∧ J (pre ++ [x]) L) ∨ (b = false ∧ Jx (pre ++ [x]) L))) :
    Ctr Try.prog 59 [.slice A l.length c, .int .i64 s, .func (.func f) #[] caps.toArray] w LJ fun v L => ∃ LJ2, LJ2.Sublist L ∧ ((J (visP l s) LJ2 ∧ v = .tuple #[.int .i64 (heightP l s).2.1, .int .i64 (heightP l s).2.2]) ∨
      (∃ pre x rest, visP l s = pre ++ x :: rest ∧ Jx (pre ++ [x]) LJ2 ∧ v = .tuple #[.int .i64 0, .int .i64 0])) := by
 refine Ctr.intro (n := 165) Try.func59 rfl Try.ntmps59 (Nat.le_of_ble_eq_true rfl) hown hnd ?_
 refine X.seq ?_
 refine X.region rfl ?_
 refine RL.assign rfl ?_
 refine RL.assign rfl ?_
 refine RL.nil ?_
 refine X.scope rfl ?_
 refine X.seq ?_
 refine X.seq ?_
 refine X.region rfl ?_
 refine RL.move rfl ?_
 refine RL.len rfl sl78 rfl ?_
 refine RL.cmp_s rfl rfl rfl rfl (fun h => ?_) (fun h => ?_)
 ·replace h : (_ : Int) < _ := h
  refine RL.move rfl ?_
  refine RL.skip rfl ?_
  refine RL.skip rfl ?_
  refine RL.skip rfl ?_
  refine RL.pick_t rfl rfl ?_
  refine RL.nil ?_
  refine X.cond_t rfl ?_
  refine X.seq ?_
  refine X.region rfl ?_
  refine RL.assign rfl ?_
  refine RL.assign rfl ?_
  refine RL.nil ?_
  refine X.ret ?_
  refine ret2 rfl ?_
  exact ⟨LJ, List.Sublist.refl _, .inl ⟨by rw [visP_len (by omega)]; exact hJ0, by rw [heightP_len (by omega)]⟩⟩
 replace h : ¬ ((_ : Int) < _) := h
 refine RL.move rfl ?_
 refine RL.move rfl ?_
 refine RL.len rfl sl78 rfl ?_
 refine RL.cmp_s rfl rfl rfl rfl (fun h2 => ?_) (fun h2 => ?_)
 ·replace h2 : (_ : Int) > _ := h2
  refine RL.pick_f rfl rfl ?_
  refine RL.nil ?_
  refine X.cond_t rfl ?_
  refine X.seq ?_
  refine X.region rfl ?_
  refine RL.assign rfl ?_
  refine RL.assign rfl ?_
  refine RL.nil ?_
  refine X.ret ?_
  refine ret2 rfl ?_
  exact ⟨LJ, List.Sublist.refl _, .inl ⟨by rw [visP_len (by omega)]; exact hJ0, by rw [heightP_len (by omega)]⟩⟩
 replace h2 : ¬ ((_ : Int) > _) := h2
 have hl : ¬ (l.length < 1 ∨ 32 < l.length) := by omega
 refine RL.pick_f rfl rfl ?_
 refine RL.nil ?_
 refine X.cond_f rfl ?_
 refine X.skip ?_
 refine X.seq ?_
 refine X.region rfl ?_
 refine RL.move rfl ?_
 refine RL.len rfl sl78 rfl ?_
 refine RL.makeInts rfl rfl sl38 el_int rfl rfl (by omega) ?_
 intro mb hmb
 refine RL.assign rfl ?_
 refine RL.nil ?_
 refine X.seq ?_
 refine X.region rfl ?_
 refine RL.move rfl ?_
 refine RL.indexAddr rfl sl38 rfl rfl rfl (show (0 : Int) = ((0 : Nat) : Int) from rfl) (by omega) ?_
 refine RL.stRow rfl rfl sc3.size rfl rfl (by simp; omega) ?_
 refine RL.nil ?_
 refine X.seq ?_
 refine X.label ?_
 refine X.seq ?_
 refine X.seq ?_
 refine X.region rfl ?_
 refine RL.move rfl ?_
 refine RL.len rfl sl78 rfl ?_
 refine RL.move rfl ?_
 refine RL.nil ?_
 refine X.block ?_
 refine X.loop (γ := Nat) (fun g ρ L => ∃ M : List Int, ∃ LJ2 : List Ent, ∃ Lo : List Ent, (g ≤ l.length) ∧ ((hts l s g).length = g) ∧ (MarksK l (hts l s g) g 0 [] M) ∧ (J (visN l (hts l s g) g) LJ2) ∧ Has ρ [(0, .slice A l.length c), (1, .int .i64 s), (2, .func (.func f) #[] caps.toArray), (8, .slice (some ⟨mb, 0, none⟩) l.length l.length), (32, .slice A l.length c), (33, .int .i64 l.length), (34, .int .i64 g)] ∧ L = (mb, cel 3 (ints M)) :: (LJ2 ++ Lo)) (fun g => l.length - g) (0) ⟨_, (by repeat (first | exact sb0 _ | exact sb1 _ | (rw [List.append_nil]; exact sb0 _) | exact sb2 _ _ | exact sb3 _ _ _ | apply sb4 | apply sb5 | apply sb6)), (List.replicate l.length 0).set 0 1, LJ, [], Nat.zero_le _, rfl, MarksK.init l (by omega), hJ0, ⟨rfl, rfl, rfl, rfl, rfl, rfl, rfl, trivial⟩, rfl⟩ ?_
 rintro g _ _ ⟨M, LJ2, Lo, hgl, hg, hM, hJ, hρ, rfl⟩
 obtain ⟨base, rfl⟩ := hρ.base
 clear hρ
 refine X.seq ?_
 refine X.region rfl ?_
 refine RL.cmp_s rfl rfl rfl rfl (fun h3 => ?_) (fun h3 => ?_)
 ·replace h3 : (_ : Int) < _ := h3
  obtain ⟨x, hx⟩ : ∃ x, l[g]? = some x := ⟨_, List.getElem?_eq_getElem (by omega)⟩
  have hmg := hM.get (t := g) (by omega)
  have hmr := markN_range (l := l) (s := s) (m := g) g g
  have htk := takeP_range x.op
  have hly := layP_range x.op
  have hbb2 := hbb (by omega)
  rcases ho : okP x s with _ | _
  ·refine RL.nil ?_
   refine X.seq ?_
   refine X.cond_t rfl ?_
   refine X.skip ?_
   refine X.seq ?_
   refine X.block ?_
   refine X.seq ?_
   refine X.region rfl ?_
   refine RL.move rfl ?_
   refine RL.indexAddr rfl sl78 rfl rfl (hA (by omega)) rfl (by omega) ?_
   refine RL.loadIA rfl ag77 rfl (elem_at Ins.len hc hx) hbb2 (Ins.len _) ?_
   refine RL.alloc rfl rfl zt77 ?_
   intro b10 hb10
   dsimp only at hb10
   refine RL.assign rfl ?_
   refine RL.stA rfl rfl ag77.size rfl rfl (Ins.len _) rfl (Ins.one x) ?_
   refine RL.nil ?_
   refine X.seq ?_
   refine X.region rfl ?_
   refine RL.loadOA rfl ag77 rfl (take_all (Ins.len _)) (Ins.len _) ?_
   refine RL.move rfl ?_
   refine RL.fn0 rfl rfl rfl en61 (fun w hw => (f_shape x s w).mono (fun v L h => (by rw [ho] at h; exact h : v = .tuple #[.int .i64 (takeP x.op), .int .i64 (layP x.op), .bool false]))) rfl ?_
   rintro _ _ rfl
   refine RL.drop rfl (List.sublist_append_right _ _) ?_
   refine RL.move rfl ?_
   refine RL.extract rfl rfl rfl ?_
   refine RL.extract rfl rfl rfl ?_
   refine RL.extract rfl rfl rfl ?_
   refine RL.assign rfl ?_
   refine RL.assign rfl ?_
   refine RL.assign rfl ?_
   refine RL.nil ?_
   refine X.seq ?_
   refine X.region rfl ?_
   refine RL.move rfl ?_
   refine RL.move rfl ?_
   refine RL.indexAddr rfl sl38 rfl rfl rfl rfl (by omega) ?_
   refine RL.loadO rfl sc3 rfl (ints_get2 hmg) ?_
   refine RL.sub rfl rfl rfl (by omega) ?_
   refine RL.assign rfl ?_
   refine RL.nil ?_
   refine X.seq ?_
   refine X.region rfl ?_
   refine RL.move rfl ?_
   refine RL.move rfl ?_
   refine RL.sub rfl rfl rfl (by omega) ?_
   refine RL.move rfl ?_
   refine RL.add rfl rfl rfl (by omega) ?_
   refine RL.assign rfl ?_
   refine RL.nil ?_
   refine X.seq ?_
   refine X.block ?_
   refine X.seq ?_
   refine X.region rfl ?_
   refine RL.move rfl ?_
   refine RL.not rfl rfl ?_
   refine RL.move rfl ?_
   refine RL.skip rfl ?_
   refine RL.skip rfl ?_
   refine RL.skip rfl ?_
   refine RL.skip rfl ?_
   refine RL.skip rfl ?_
   refine RL.pick_t rfl rfl ?_
   refine RL.move rfl ?_
   refine RL.skip rfl ?_
   refine RL.skip rfl ?_
   refine RL.skip rfl ?_
   refine RL.pick_t rfl rfl ?_
   refine RL.move rfl ?_
   refine RL.skip rfl ?_
   refine RL.skip rfl ?_
   refine RL.skip rfl ?_
   refine RL.skip rfl ?_
   refine RL.skip rfl ?_
   refine RL.skip rfl ?_
   refine RL.skip rfl ?_
   refine RL.pick_t rfl rfl ?_
   refine RL.assign rfl ?_
   refine RL.nil ?_
   refine X.cond_t rfl ?_
   refine X.seq ?_
   refine X.region rfl ?_
   refine RL.move rfl ?_
   refine RL.assign rfl ?_
   refine RL.assign rfl ?_
   refine RL.nil ?_
   refine X.ret ?_
   refine ret2 rfl ?_
   first
     | (exfalso; omega)
     | exact (have hw := stepP_of hg hx (wrong5 (.inl ho)); ⟨LJ2, (by repeat (first | exact List.Sublist.refl _ | exact List.nil_sublist _ | exact List.sublist_append_left _ _ | exact (List.sublist_append_left _ _).trans (List.sublist_append_left _ _) | apply List.Sublist.cons | refine List.Sublist.trans ?_ (List.sublist_append_right _ _))), .inl ⟨by rw [visP_wrong hl hg (by omega) hw]; exact hJ, by rw [heightP_wrong hl hg (by omega) hw]⟩⟩)
  refine RL.nil ?_
  refine X.seq ?_
  refine X.cond_t rfl ?_
  refine X.skip ?_
  refine X.seq ?_
  refine X.block ?_
  refine X.seq ?_
  refine X.region rfl ?_
  refine RL.move rfl ?_
  refine RL.indexAddr rfl sl78 rfl rfl (hA (by omega)) rfl (by omega) ?_
  refine RL.loadIA rfl ag77 rfl (elem_at Ins.len hc hx) hbb2 (Ins.len _) ?_
  refine RL.alloc rfl rfl zt77 ?_
  intro b10 hb10
  dsimp only at hb10
  refine RL.assign rfl ?_
  refine RL.stA rfl rfl ag77.size rfl rfl (Ins.len _) rfl (Ins.one x) ?_
  refine RL.nil ?_
  refine X.seq ?_
  refine X.region rfl ?_
  refine RL.loadOA rfl ag77 rfl (take_all (Ins.len _)) (Ins.len _) ?_
  refine RL.move rfl ?_
  refine RL.fn0 rfl rfl rfl en61 (fun w hw => (f_shape x s w).mono (fun v L h => (by rw [ho] at h; exact h : v = .tuple #[.int .i64 (takeP x.op), .int .i64 (layP x.op), .bool true]))) rfl ?_
  rintro _ _ rfl
  refine RL.drop rfl (List.sublist_append_right _ _) ?_
  refine RL.move rfl ?_
  refine RL.extract rfl rfl rfl ?_
  refine RL.extract rfl rfl rfl ?_
  refine RL.extract rfl rfl rfl ?_
  refine RL.assign rfl ?_
  refine RL.assign rfl ?_
  refine RL.assign rfl ?_
  refine RL.nil ?_
  refine X.seq ?_
  refine X.region rfl ?_
  refine RL.move rfl ?_
  refine RL.move rfl ?_
  refine RL.indexAddr rfl sl38 rfl rfl rfl rfl (by omega) ?_
  refine RL.loadO rfl sc3 rfl (ints_get2 hmg) ?_
  refine RL.sub rfl rfl rfl (by omega) ?_
  refine RL.assign rfl ?_
  refine RL.nil ?_
  refine X.seq ?_
  refine X.region rfl ?_
  refine RL.move rfl ?_
  refine RL.move rfl ?_
  refine RL.sub rfl rfl rfl (by omega) ?_
  refine RL.move rfl ?_
  refine RL.add rfl rfl rfl (by omega) ?_
  refine RL.assign rfl ?_
  refine RL.nil ?_
  refine X.seq ?_
  refine X.block ?_
  refine X.seq ?_
  refine X.region rfl ?_
  refine RL.move rfl ?_
  refine RL.not rfl rfl ?_
  refine RL.move rfl ?_
  refine RL.move rfl ?_
  refine RL.move rfl ?_
  refine RL.indexAddr rfl sl38 rfl rfl rfl rfl (by omega) ?_
  refine RL.loadO rfl sc3 rfl (ints_get2 hmg) ?_
  refine RL.cmp_s rfl rfl rfl rfl (fun c1 => ?_) (fun c1 => ?_)
  ·replace c1 : (_ : Int) < _ := c1
   refine RL.pick_f rfl rfl ?_
   refine RL.move rfl ?_
   refine RL.skip rfl ?_
   refine RL.skip rfl ?_
   refine RL.skip rfl ?_
   refine RL.pick_t rfl rfl ?_
   refine RL.move rfl ?_
   refine RL.skip rfl ?_
   refine RL.skip rfl ?_
   refine RL.skip rfl ?_
   refine RL.skip rfl ?_
   refine RL.skip rfl ?_
   refine RL.skip rfl ?_
   refine RL.skip rfl ?_
   refine RL.pick_t rfl rfl ?_
   refine RL.assign rfl ?_
   refine RL.nil ?_
   refine X.cond_t rfl ?_
   refine X.seq ?_
   refine X.region rfl ?_
   refine RL.move rfl ?_
   refine RL.assign rfl ?_
   refine RL.assign rfl ?_
   refine RL.nil ?_
   refine X.ret ?_
   refine ret2 rfl ?_
   first
     | (exfalso; omega)
     | exact (have hw := stepP_of hg hx (wrong5 (.inr (by omega))); ⟨LJ2, (by repeat (first | exact List.Sublist.refl _ | exact List.nil_sublist _ | exact List.sublist_append_left _ _ | exact (List.sublist_append_left _ _).trans (List.sublist_append_left _ _) | apply List.Sublist.cons | refine List.Sublist.trans ?_ (List.sublist_append_right _ _))), .inl ⟨by rw [visP_wrong hl hg (by omega) hw]; exact hJ, by rw [heightP_wrong hl hg (by omega) hw]⟩⟩)
     | exact (have hw := stepP_of hg hx (wrong16 ho (by omega) (by unfold leftP; omega)); ⟨LJ2, (by repeat (first | exact List.Sublist.refl _ | exact List.nil_sublist _ | exact List.sublist_append_left _ _ | exact (List.sublist_append_left _ _).trans (List.sublist_append_left _ _) | apply List.Sublist.cons | refine List.Sublist.trans ?_ (List.sublist_append_right _ _))), .inl ⟨by rw [visP_wrong hl hg (by omega) hw]; exact hJ, by rw [heightP_wrong hl hg (by omega) hw]⟩⟩)
     | exact (have hw := stepP_of hg hx (wrong5c ho (by omega) (by unfold leftP; omega) (by omega)); ⟨LJ2, (by repeat (first | exact List.Sublist.refl _ | exact List.nil_sublist _ | exact List.sublist_append_left _ _ | exact (List.sublist_append_left _ _).trans (List.sublist_append_left _ _) | apply List.Sublist.cons | refine List.Sublist.trans ?_ (List.sublist_append_right _ _))), .inl ⟨by rw [visP_wrong hl hg (by omega) hw]; exact hJ, by rw [heightP_wrong hl hg (by omega) hw]⟩⟩)
  replace c1 : ¬ ((_ : Int) < _) := c1
  refine RL.pick_f rfl rfl ?_
  refine RL.move rfl ?_
  refine RL.move rfl ?_
  refine RL.move rfl ?_
  refine RL.cmp_s rfl rfl rfl rfl (fun c2 => ?_) (fun c2 => ?_)
  ·replace c2 : (_ : Int) < _ := c2
   refine RL.pick_f rfl rfl ?_
   refine RL.move rfl ?_
   refine RL.skip rfl ?_
   refine RL.skip rfl ?_
   refine RL.skip rfl ?_
   refine RL.skip rfl ?_
   refine RL.skip rfl ?_
   refine RL.skip rfl ?_
   refine RL.skip rfl ?_
   refine RL.pick_t rfl rfl ?_
   refine RL.assign rfl ?_
   refine RL.nil ?_
   refine X.cond_t rfl ?_
   refine X.seq ?_
   refine X.region rfl ?_
   refine RL.move rfl ?_
   refine RL.assign rfl ?_
   refine RL.assign rfl ?_
   refine RL.nil ?_
   refine X.ret ?_
   refine ret2 rfl ?_
   first
     | (exfalso; omega)
     | exact (have hw := stepP_of hg hx (wrong5 (.inr (by omega))); ⟨LJ2, (by repeat (first | exact List.Sublist.refl _ | exact List.nil_sublist _ | exact List.sublist_append_left _ _ | exact (List.sublist_append_left _ _).trans (List.sublist_append_left _ _) | apply List.Sublist.cons | refine List.Sublist.trans ?_ (List.sublist_append_right _ _))), .inl ⟨by rw [visP_wrong hl hg (by omega) hw]; exact hJ, by rw [heightP_wrong hl hg (by omega) hw]⟩⟩)
     | exact (have hw := stepP_of hg hx (wrong16 ho (by omega) (by unfold leftP; omega)); ⟨LJ2, (by repeat (first | exact List.Sublist.refl _ | exact List.nil_sublist _ | exact List.sublist_append_left _ _ | exact (List.sublist_append_left _ _).trans (List.sublist_append_left _ _) | apply List.Sublist.cons | refine List.Sublist.trans ?_ (List.sublist_append_right _ _))), .inl ⟨by rw [visP_wrong hl hg (by omega) hw]; exact hJ, by rw [heightP_wrong hl hg (by omega) hw]⟩⟩)
     | exact (have hw := stepP_of hg hx (wrong5c ho (by omega) (by unfold leftP; omega) (by omega)); ⟨LJ2, (by repeat (first | exact List.Sublist.refl _ | exact List.nil_sublist _ | exact List.sublist_append_left _ _ | exact (List.sublist_append_left _ _).trans (List.sublist_append_left _ _) | apply List.Sublist.cons | refine List.Sublist.trans ?_ (List.sublist_append_right _ _))), .inl ⟨by rw [visP_wrong hl hg (by omega) hw]; exact hJ, by rw [heightP_wrong hl hg (by omega) hw]⟩⟩)
  replace c2 : ¬ ((_ : Int) < _) := c2
  refine RL.pick_f rfl rfl ?_
  refine RL.move rfl ?_
  refine RL.fieldAddr rfl fd77_0 rfl ?_
  refine RL.loadO rfl sc3 rfl rfl ?_
  refine RL.cmp_s rfl rfl rfl rfl (fun c3 => ?_) (fun c3 => ?_)
  ·replace c3 : (_ : Int) = _ := c3
   refine RL.move rfl ?_
   refine RL.move rfl ?_
   refine RL.cmp_s rfl rfl rfl rfl (fun c4 => ?_) (fun c4 => ?_)
   ·replace c4 : (_ : Int) ≠ _ := c4
    refine RL.pick_t rfl rfl ?_
    refine RL.pick_f rfl rfl ?_
    refine RL.assign rfl ?_
    refine RL.nil ?_
    refine X.cond_t rfl ?_
    refine X.seq ?_
    refine X.region rfl ?_
    refine RL.move rfl ?_
    refine RL.assign rfl ?_
    refine RL.assign rfl ?_
    refine RL.nil ?_
    refine X.ret ?_
    refine ret2 rfl ?_
    first
      | (exfalso; omega)
      | exact (have hw := stepP_of hg hx (wrong5 (.inr (by omega))); ⟨LJ2, (by repeat (first | exact List.Sublist.refl _ | exact List.nil_sublist _ | exact List.sublist_append_left _ _ | exact (List.sublist_append_left _ _).trans (List.sublist_append_left _ _) | apply List.Sublist.cons | refine List.Sublist.trans ?_ (List.sublist_append_right _ _))), .inl ⟨by rw [visP_wrong hl hg (by omega) hw]; exact hJ, by rw [heightP_wrong hl hg (by omega) hw]⟩⟩)
      | exact (have hw := stepP_of hg hx (wrong16 ho (by omega) (by unfold leftP; omega)); ⟨LJ2, (by repeat (first | exact List.Sublist.refl _ | exact List.nil_sublist _ | exact List.sublist_append_left _ _ | exact (List.sublist_append_left _ _).trans (List.sublist_append_left _ _) | apply List.Sublist.cons | refine List.Sublist.trans ?_ (List.sublist_append_right _ _))), .inl ⟨by rw [visP_wrong hl hg (by omega) hw]; exact hJ, by rw [heightP_wrong hl hg (by omega) hw]⟩⟩)
      | exact (have hw := stepP_of hg hx (wrong5c ho (by omega) (by unfold leftP; omega) (by omega)); ⟨LJ2, (by repeat (first | exact List.Sublist.refl _ | exact List.nil_sublist _ | exact List.sublist_append_left _ _ | exact (List.sublist_append_left _ _).trans (List.sublist_append_left _ _) | apply List.Sublist.cons | refine List.Sublist.trans ?_ (List.sublist_append_right _ _))), .inl ⟨by rw [visP_wrong hl hg (by omega) hw]; exact hJ, by rw [heightP_wrong hl hg (by omega) hw]⟩⟩)
   replace c4 : ¬ ((_ : Int) ≠ _) := c4
   refine RL.pick_t rfl rfl ?_
   refine RL.pick_f rfl rfl ?_
   refine RL.assign rfl ?_
   refine RL.nil ?_
   refine X.cond_f rfl ?_
   refine X.seq ?_
   refine X.region rfl ?_
   refine RL.move rfl ?_
   refine RL.cmp_s rfl rfl rfl rfl (fun c5 => ?_) (fun c5 => ?_)
   ·replace c5 : (_ : Int) > _ := c5
    refine RL.assign rfl ?_
    refine RL.nil ?_
    refine X.cond_t rfl ?_
    refine X.seq ?_
    refine X.region rfl ?_
    refine RL.move rfl ?_
    refine RL.assign rfl ?_
    refine RL.assign rfl ?_
    refine RL.nil ?_
    refine X.ret ?_
    refine ret2 rfl ?_
    first
      | (exfalso; omega)
      | exact (have hw := stepP_of hg hx (wrong5 (.inr (by omega))); ⟨LJ2, (by repeat (first | exact List.Sublist.refl _ | exact List.nil_sublist _ | exact List.sublist_append_left _ _ | exact (List.sublist_append_left _ _).trans (List.sublist_append_left _ _) | apply List.Sublist.cons | refine List.Sublist.trans ?_ (List.sublist_append_right _ _))), .inl ⟨by rw [visP_wrong hl hg (by omega) hw]; exact hJ, by rw [heightP_wrong hl hg (by omega) hw]⟩⟩)
      | exact (have hw := stepP_of hg hx (wrong16 ho (by omega) (by unfold leftP; omega)); ⟨LJ2, (by repeat (first | exact List.Sublist.refl _ | exact List.nil_sublist _ | exact List.sublist_append_left _ _ | exact (List.sublist_append_left _ _).trans (List.sublist_append_left _ _) | apply List.Sublist.cons | refine List.Sublist.trans ?_ (List.sublist_append_right _ _))), .inl ⟨by rw [visP_wrong hl hg (by omega) hw]; exact hJ, by rw [heightP_wrong hl hg (by omega) hw]⟩⟩)
      | exact (have hw := stepP_of hg hx (wrong5c ho (by omega) (by unfold leftP; omega) (by omega)); ⟨LJ2, (by repeat (first | exact List.Sublist.refl _ | exact List.nil_sublist _ | exact List.sublist_append_left _ _ | exact (List.sublist_append_left _ _).trans (List.sublist_append_left _ _) | apply List.Sublist.cons | refine List.Sublist.trans ?_ (List.sublist_append_right _ _))), .inl ⟨by rw [visP_wrong hl hg (by omega) hw]; exact hJ, by rw [heightP_wrong hl hg (by omega) hw]⟩⟩)
   replace c5 : ¬ ((_ : Int) > _) := c5
   refine RL.assign rfl ?_
   refine RL.nil ?_
   refine X.cond_f rfl ?_
   refine X.seq ?_
   refine X.region rfl ?_
   refine RL.fieldAddr rfl fd77_0 rfl ?_
   refine RL.loadO rfl sc3 rfl rfl ?_
   refine RL.cmp_s rfl rfl rfl rfl (fun c6 => ?_) (fun c6 => ?_)
   ·replace c6 : (_ : Int) ≠ _ := c6
    refine RL.move rfl ?_
    refine RL.move rfl ?_
    refine RL.add rfl rfl rfl (by omega) ?_
    refine RL.move rfl ?_
    refine RL.len rfl sl78 rfl ?_
    refine RL.cmp_s rfl rfl rfl rfl (fun c7 => ?_) (fun c7 => ?_)
    ·replace c7 : (_ : Int) ≥ _ := c7
     refine RL.move rfl ?_
     refine RL.skip rfl ?_
     refine RL.skip rfl ?_
     refine RL.skip rfl ?_
     refine RL.skip rfl ?_
     refine RL.skip rfl ?_
     refine RL.skip rfl ?_
     refine RL.skip rfl ?_
     refine RL.skip rfl ?_
     refine RL.skip rfl ?_
     refine RL.skip rfl ?_
     refine RL.skip rfl ?_
     refine RL.skip rfl ?_
     refine RL.skip rfl ?_
     refine RL.pick_t rfl rfl ?_
     refine RL.pick_t rfl rfl ?_
     refine RL.assign rfl ?_
     refine RL.nil ?_
     refine X.cond_t rfl ?_
     refine X.seq ?_
     refine X.region rfl ?_
     refine RL.move rfl ?_
     refine RL.assign rfl ?_
     refine RL.assign rfl ?_
     refine RL.nil ?_
     refine X.ret ?_
     refine ret2 rfl ?_
     first
       | (exfalso; omega)
       | exact (have hw := stepP_of hg hx (wrong5 (.inr (by omega))); ⟨LJ2, (by repeat (first | exact List.Sublist.refl _ | exact List.nil_sublist _ | exact List.sublist_append_left _ _ | exact (List.sublist_append_left _ _).trans (List.sublist_append_left _ _) | apply List.Sublist.cons | refine List.Sublist.trans ?_ (List.sublist_append_right _ _))), .inl ⟨by rw [visP_wrong hl hg (by omega) hw]; exact hJ, by rw [heightP_wrong hl hg (by omega) hw]⟩⟩)
       | exact (have hw := stepP_of hg hx (wrong16 ho (by omega) (by unfold leftP; omega)); ⟨LJ2, (by repeat (first | exact List.Sublist.refl _ | exact List.nil_sublist _ | exact List.sublist_append_left _ _ | exact (List.sublist_append_left _ _).trans (List.sublist_append_left _ _) | apply List.Sublist.cons | refine List.Sublist.trans ?_ (List.sublist_append_right _ _))), .inl ⟨by rw [visP_wrong hl hg (by omega) hw]; exact hJ, by rw [heightP_wrong hl hg (by omega) hw]⟩⟩)
       | exact (have hw := stepP_of hg hx (wrong5c ho (by omega) (by unfold leftP; omega) (by omega)); ⟨LJ2, (by repeat (first | exact List.Sublist.refl _ | exact List.nil_sublist _ | exact List.sublist_append_left _ _ | exact (List.sublist_append_left _ _).trans (List.sublist_append_left _ _) | apply List.Sublist.cons | refine List.Sublist.trans ?_ (List.sublist_append_right _ _))), .inl ⟨by rw [visP_wrong hl hg (by omega) hw]; exact hJ, by rw [heightP_wrong hl hg (by omega) hw]⟩⟩)
    replace c7 : ¬ ((_ : Int) ≥ _) := c7
    refine RL.move rfl ?_
    refine RL.fieldAddr rfl fd77_0 rfl ?_
    refine RL.loadO rfl sc3 rfl rfl ?_
    refine RL.cmp_s rfl rfl rfl rfl (fun c8 => ?_) (fun c8 => ?_)
    ·replace c8 : (_ : Int) = _ := c8
     refine RL.move rfl ?_
     refine RL.fieldAddr rfl fd77_1 rfl ?_
     refine RL.loadO rfl sc3 rfl rfl ?_
     refine RL.move rfl ?_
     refine RL.len rfl sl78 rfl ?_
     refine RL.move rfl ?_
     refine RL.sub rfl rfl rfl (by omega) ?_
     refine RL.sub rfl rfl rfl (by omega) ?_
     refine RL.cmp_s rfl rfl rfl rfl (fun c9 => ?_) (fun c9 => ?_)
     ·replace c9 : (_ : Int) ≥ _ := c9
      refine RL.pick_t rfl rfl ?_
      refine RL.pick_f rfl rfl ?_
      refine RL.pick_t rfl rfl ?_
      refine RL.assign rfl ?_
      refine RL.nil ?_
      refine X.cond_t rfl ?_
      refine X.seq ?_
      refine X.region rfl ?_
      refine RL.move rfl ?_
      refine RL.assign rfl ?_
      refine RL.assign rfl ?_
      refine RL.nil ?_
      refine X.ret ?_
      refine ret2 rfl ?_
      first
        | (exfalso; omega)
        | exact (have hw := stepP_of hg hx (wrong5 (.inr (by omega))); ⟨LJ2, (by repeat (first | exact List.Sublist.refl _ | exact List.nil_sublist _ | exact List.sublist_append_left _ _ | exact (List.sublist_append_left _ _).trans (List.sublist_append_left _ _) | apply List.Sublist.cons | refine List.Sublist.trans ?_ (List.sublist_append_right _ _))), .inl ⟨by rw [visP_wrong hl hg (by omega) hw]; exact hJ, by rw [heightP_wrong hl hg (by omega) hw]⟩⟩)
        | exact (have hw := stepP_of hg hx (wrong16 ho (by omega) (by unfold leftP; omega)); ⟨LJ2, (by repeat (first | exact List.Sublist.refl _ | exact List.nil_sublist _ | exact List.sublist_append_left _ _ | exact (List.sublist_append_left _ _).trans (List.sublist_append_left _ _) | apply List.Sublist.cons | refine List.Sublist.trans ?_ (List.sublist_append_right _ _))), .inl ⟨by rw [visP_wrong hl hg (by omega) hw]; exact hJ, by rw [heightP_wrong hl hg (by omega) hw]⟩⟩)
        | exact (have hw := stepP_of hg hx (wrong5c ho (by omega) (by unfold leftP; omega) (by omega)); ⟨LJ2, (by repeat (first | exact List.Sublist.refl _ | exact List.nil_sublist _ | exact List.sublist_append_left _ _ | exact (List.sublist_append_left _ _).trans (List.sublist_append_left _ _) | apply List.Sublist.cons | refine List.Sublist.trans ?_ (List.sublist_append_right _ _))), .inl ⟨by rw [visP_wrong hl hg (by omega) hw]; exact hJ, by rw [heightP_wrong hl hg (by omega) hw]⟩⟩)
     replace c9 : ¬ ((_ : Int) ≥ _) := c9
     refine RL.pick_t rfl rfl ?_
     refine RL.pick_f rfl rfl ?_
     refine RL.pick_t rfl rfl ?_
     refine RL.assign rfl ?_
     refine RL.nil ?_
     refine X.cond_f rfl ?_
     refine X.skip ?_
     refine X.blk ?_
     refine X.seq ?_
     refine X.seq ?_
     refine X.region rfl ?_
     refine RL.move rfl ?_
     refine RL.move rfl ?_
     refine RL.move rfl ?_
     refine RL.move rfl ?_
     have hst : stepP l s (hts l s g) = none := stepP_of hg hx (wrong0 ho (by omega) (by unfold leftP; omega) (by omega))
     obtain ⟨rest, hvis⟩ := visP_split hl hg hx hst
     have hn := hts_next hg hst
     have hvn := visN_next hg hx hst
     have hlf : leftP x (markN l (hts l s g) g g - 1) = markN l (hts l s g) g g - 1 - takeP x.op + layP x.op := rfl
     refine RL.fnV (caps := caps) (vals := [.int .i64 (g : Int), .int .i64 (markN l (hts l s g) g g - 1), .int .i64 (leftP x (markN l (hts l s g) g g - 1))]) (Lp := LJ2) (Lr := (b10, cel 77 x.cells) :: (mb, cel 3 (ints M)) :: Lo) rfl rfl rfl hf (by classical exact List.perm_iff_count.2 (fun z => by simp only [List.count_append, List.count_cons, List.count_nil, List.cons_append, List.nil_append, List.set_cons_zero, List.set_cons_succ] <;> omega)) rfl (fun w1 hst1 => hcb _ _ rest _ _ w1 hvis hJ hst1) ?_
     rintro _ LJ3 ⟨_, rfl, ⟨rfl, hJ3⟩ | ⟨rfl, hJ3⟩⟩
     ·refine RL.perm (L' := (mb, cel 3 (ints M)) :: (LJ3 ++ ((b10, cel 77 x.cells) :: Lo))) rfl (by classical exact List.perm_iff_count.2 (fun z => by simp only [List.count_append, List.count_cons, List.count_nil, List.cons_append, List.nil_append, List.set_cons_zero, List.set_cons_succ] <;> omega)) ?_
      refine RL.not rfl rfl ?_
      refine RL.nil ?_
      refine X.cond_f rfl ?_
      refine X.skip ?_
      refine X.seq ?_
      refine X.region rfl ?_
      refine RL.move rfl ?_
      refine RL.add rfl rfl rfl (by omega) ?_
      refine RL.bs1I rfl rfl sl38 zt3 rfl ?_
      intro tb htb
      refine RL.assign rfl ?_
      refine RL.nil ?_
      refine X.seq ?_
      refine X.seq ?_
      refine X.region rfl ?_
      refine RL.fieldAddr rfl fd77_0 rfl ?_
      refine RL.loadO rfl sc3 rfl rfl ?_
      refine RL.nil ?_
      refine X.block ?_
      refine X.seq ?_
      refine X.region rfl ?_
      refine RL.cmp_s rfl rfl rfl rfl (fun h11 => ?_) (fun h11 => ?_)
      ·replace h11 : (_ : Int) = _ := h11
       refine RL.assign rfl ?_
       refine RL.nil ?_
       refine X.cond_t rfl ?_
       refine X.exit rfl ?_
       refine X.region rfl ?_
       refine RL.add rfl rfl rfl (by omega) ?_
       refine RL.move rfl ?_
       refine RL.nil ?_
       refine X.hyp ⟨rfl, g + 1, by omega, (mb, cel 3 (ints M)) :: (LJ3 ++ ((b10, cel 77 x.cells) :: Lo)), (by repeat (first | exact List.Sublist.refl _ | exact List.nil_sublist _ | exact List.sublist_append_left _ _ | exact (List.sublist_append_left _ _).trans (List.sublist_append_left _ _) | apply List.Sublist.cons | refine List.Sublist.trans ?_ (List.sublist_append_right _ _))), M, LJ3, (b10, cel 77 x.cells) :: Lo, by omega, by rw [hn]; simp [hg], MarksK.next (x := x) (by rw [tgts11 h11]; exact hM.left) hx (next_get hg hst) (next_ext hg hst), by rw [hvn]; exact hJ3, ⟨rfl, rfl, rfl, rfl, rfl, rfl, rfl, trivial⟩, rfl⟩
      replace h11 : ¬ ((_ : Int) = _) := h11
      refine RL.assign rfl ?_
      refine RL.nil ?_
      refine X.cond_f rfl ?_
      refine X.seq ?_
      refine X.region rfl ?_
      refine RL.cmp_s rfl rfl rfl rfl (fun h77 => ?_) (fun h77 => ?_)
      ·replace h77 : (_ : Int) = _ := h77
       have ha7 := ok7 ho h77
       refine RL.assign rfl ?_
       refine RL.nil ?_
       refine X.cond_t rfl ?_
       refine X.region rfl ?_
       refine RL.move rfl ?_
       refine RL.move rfl ?_
       refine RL.add rfl rfl rfl (by omega) ?_
       refine RL.fieldAddr rfl fd77_1 rfl ?_
       refine RL.loadO rfl sc3 rfl rfl ?_
       refine RL.add rfl rfl rfl (by omega) ?_
       refine RL.bs1I rfl rfl sl38 zt3 rfl ?_
       intro bb3 hbb3
       refine RL.app1I (Lr := [(tb, cel 3 [.int .i64 ((g : Int) + 1)])]) (Lz := (mb, cel 3 (ints M)) :: (LJ3 ++ ((b10, cel 77 x.cells) :: Lo))) (xs := [.int .i64 ((g : Int) + 1)]) rfl rfl sl38 el_int Try.underlying38 (List.Perm.refl _) rfl rfl (Row.blk tb 1 1 [.int .i64 ((g : Int) + 1)] [] rfl rfl (Nat.le_refl _)) (by simp) (n := 2) rfl ?_
       intro A3 cp3 Lr3 hr3
       refine RL.assign rfl ?_
       refine RL.nil ?_
       refine X.blk ?_
       refine X.seq ?_
       refine X.region rfl ?_
       refine RL.move rfl ?_
       refine RL.len rfl sl38 rfl ?_
       refine RL.move rfl ?_
       refine RL.nil ?_
       refine X.block ?_
       have htnd : [(g : Int) + 1, (g : Int) + 1 + x.a].Nodup := by simp; omega
       have htr : ∀ v ∈ [(g : Int) + 1, (g : Int) + 1 + x.a], 0 ≤ v ∧ v < l.length := by intro v hv; simp at hv; omega
       have hrow := (show Row 3 1 (.slice A3 2 cp3) (ints [(g : Int) + 1, (g : Int) + 1 + x.a]) Lr3 from hr3)
       refine X.loop (γ := Nat) (fun k ρ L => ∃ M2, k ≤ 2 ∧ MarksK l (hts l s g) g (leftP x (markN l (hts l s g) g g - 1)) (([(g : Int) + 1, (g : Int) + 1 + x.a]).take k) M2 ∧ Has ρ [(0, .slice A l.length c), (1, .int .i64 s), (2, .func (.func f) #[] caps.toArray), (8, .slice (some ⟨mb, 0, none⟩) l.length l.length), (15, .int .i64 (leftP x (markN l (hts l s g) g g - 1))), (32, .slice A l.length c), (33, .int .i64 l.length), (34, .int .i64 g), (135, .slice A3 2 cp3), (136, .int .i64 (2 : Nat)), (137, .int .i64 k)] ∧ L = Lr3 ++ ((mb, cel 3 (ints M2)) :: (LJ3 ++ ((b10, cel 77 x.cells) :: Lo)))) (fun k => 2 - k) 0 ⟨_, (List.Sublist.append (List.Sublist.refl _) (List.sublist_append_left _ _)), M, Nat.zero_le _, hM.left, ⟨rfl, rfl, rfl, rfl, rfl, rfl, rfl, rfl, rfl, rfl, rfl, trivial⟩, rfl⟩ ?_
       rintro k _ _ ⟨M2, hk, hM2, hρ, rfl⟩
       obtain ⟨base, rfl⟩ := hρ.base
       clear hρ
       refine X.seq ?_
       refine X.region rfl ?_
       refine RL.cmp_s rfl rfl rfl rfl (fun h5 => ?_) (fun h5 => ?_)
       ·replace h5 : (_ : Int) < _ := h5
        obtain ⟨tv, htv⟩ : ∃ tv, ([(g : Int) + 1, (g : Int) + 1 + x.a])[k]? = some tv := ⟨_, List.getElem?_eq_getElem (by simp; omega)⟩
        obtain ⟨hn1, hn2⟩ := take_not htnd htv
        obtain ⟨h01, h02⟩ := htr tv (List.mem_of_getElem? htv)
        obtain ⟨tn, rfl⟩ : ∃ tn : Nat, tv = (tn : Int) := ⟨tv.toNat, by omega⟩
        have hmt := hM2.at (t := tn) (by omega) hn1
        have hml := hM2.1
        obtain ⟨tb2, junk, rfl, rfl⟩ := hrow.open (by omega)
        refine RL.nil ?_
        refine X.seq ?_
        refine X.cond_t rfl ?_
        refine X.skip ?_
        refine X.seq ?_
        refine X.block ?_
        refine X.seq ?_
        refine X.region rfl ?_
        refine RL.indexAddr rfl sl38 rfl rfl rfl rfl (by omega) ?_
        refine RL.loadO rfl sc3 rfl (ints_app_get htv) ?_
        refine RL.assign rfl ?_
        refine RL.nil ?_
        refine X.seq ?_
        refine X.seq ?_
        refine X.region rfl ?_
        refine RL.move rfl ?_
        refine RL.move rfl ?_
        refine RL.indexAddr rfl sl38 rfl rfl rfl rfl (by omega) ?_
        refine RL.loadO rfl sc3 rfl (ints_get2 hmt) ?_
        refine RL.cmp_s rfl rfl rfl rfl (fun h6 => ?_) (fun h6 => ?_)
        ·replace h6 : (_ : Int) ≠ _ := h6
         refine RL.move rfl ?_
         refine RL.move rfl ?_
         refine RL.move rfl ?_
         refine RL.indexAddr rfl sl38 rfl rfl rfl rfl (by omega) ?_
         refine RL.loadO rfl sc3 rfl (ints_get2 hmt) ?_
         refine RL.move rfl ?_
         refine RL.add rfl rfl rfl (by unfold leftP; omega) ?_
         refine RL.cmp_s rfl rfl rfl rfl (fun h7 => ?_) (fun h7 => ?_)
         ·replace h7 : (_ : Int) ≠ _ := h7
          refine RL.pick_t rfl rfl ?_
          refine RL.nil ?_
          refine X.cond_t rfl ?_
          refine X.seq ?_
          refine X.region rfl ?_
          refine RL.move rfl ?_
          refine RL.move rfl ?_
          refine RL.indexAddr rfl sl38 rfl rfl rfl rfl (by omega) ?_
          refine RL.stRow rfl rfl sc3.size rfl rfl (by omega) ?_
          refine RL.nil ?_
          refine X.exit rfl ?_
          refine X.region rfl ?_
          refine RL.add rfl rfl rfl (by omega) ?_
          refine RL.move rfl ?_
          refine RL.nil ?_
          exact X.hyp ⟨rfl, k + 1, by omega, _, (by repeat (first | exact sb0 _ | exact sb1 _ | (rw [List.append_nil]; exact sb0 _) | exact sb2 _ _ | exact sb3 _ _ _ | apply sb4 | apply sb5 | apply sb6)), M2.set tn (-1), by omega, by rw [hn2]; exact hM2.step (by omega) hn1 (by unfold mk; split <;> omega), ⟨rfl, rfl, rfl, rfl, rfl, rfl, rfl, rfl, rfl, rfl, rfl, trivial⟩, rfl⟩
         replace h7 : ¬ ((_ : Int) ≠ _) := h7
         refine RL.pick_t rfl rfl ?_
         refine RL.nil ?_
         refine X.cond_f rfl ?_
         refine X.skip ?_
         refine X.region rfl ?_
         refine RL.move rfl ?_
         refine RL.move rfl ?_
         refine RL.move rfl ?_
         refine RL.add rfl rfl rfl (by unfold leftP; omega) ?_
         refine RL.indexAddr rfl sl38 rfl rfl rfl rfl (by omega) ?_
         refine RL.stRow rfl rfl sc3.size rfl rfl (by omega) ?_
         refine RL.nil ?_
         refine X.blk ?_
         refine X.region rfl ?_
         refine RL.add rfl rfl rfl (by omega) ?_
         refine RL.move rfl ?_
         refine RL.nil ?_
         exact X.hyp ⟨rfl, k + 1, by omega, _, (by repeat (first | exact sb0 _ | exact sb1 _ | (rw [List.append_nil]; exact sb0 _) | exact sb2 _ _ | exact sb3 _ _ _ | apply sb4 | apply sb5 | apply sb6)), M2.set tn (leftP x (markN l (hts l s g) g g - 1) + 1), by omega, by rw [hn2]; exact hM2.step (by omega) hn1 (by unfold mk; split <;> omega), ⟨rfl, rfl, rfl, rfl, rfl, rfl, rfl, rfl, rfl, rfl, rfl, trivial⟩, rfl⟩
        replace h6 : ¬ ((_ : Int) ≠ _) := h6
        refine RL.move rfl ?_
        refine RL.skip rfl ?_
        refine RL.skip rfl ?_
        refine RL.skip rfl ?_
        refine RL.skip rfl ?_
        refine RL.skip rfl ?_
        refine RL.skip rfl ?_
        refine RL.skip rfl ?_
        refine RL.pick_f rfl rfl ?_
        refine RL.nil ?_
        refine X.cond_f rfl ?_
        refine X.skip ?_
        refine X.region rfl ?_
        refine RL.move rfl ?_
        refine RL.move rfl ?_
        refine RL.move rfl ?_
        refine RL.add rfl rfl rfl (by unfold leftP; omega) ?_
        refine RL.indexAddr rfl sl38 rfl rfl rfl rfl (by omega) ?_
        refine RL.stRow rfl rfl sc3.size rfl rfl (by omega) ?_
        refine RL.nil ?_
        refine X.blk ?_
        refine X.region rfl ?_
        refine RL.add rfl rfl rfl (by omega) ?_
        refine RL.move rfl ?_
        refine RL.nil ?_
        exact X.hyp ⟨rfl, k + 1, by omega, _, (by repeat (first | exact sb0 _ | exact sb1 _ | (rw [List.append_nil]; exact sb0 _) | exact sb2 _ _ | exact sb3 _ _ _ | apply sb4 | apply sb5 | apply sb6)), M2.set tn (leftP x (markN l (hts l s g) g g - 1) + 1), by omega, by rw [hn2]; exact hM2.step (by omega) hn1 (by unfold mk; split <;> omega), ⟨rfl, rfl, rfl, rfl, rfl, rfl, rfl, rfl, rfl, rfl, rfl, trivial⟩, rfl⟩
       replace h5 : ¬ ((_ : Int) < _) := h5
       obtain rfl : k = 2 := by omega
       rw [show ([(g : Int) + 1, (g : Int) + 1 + x.a]).take 2 = [(g : Int) + 1, (g : Int) + 1 + x.a] from rfl] at hM2
       refine RL.nil ?_
       refine X.seq ?_
       refine X.cond_f rfl ?_
       refine X.exit rfl ?_
       refine X.blk ?_
       refine X.region rfl ?_
       refine RL.add rfl rfl rfl (by omega) ?_
       refine RL.move rfl ?_
       refine RL.nil ?_
       refine X.hyp ⟨rfl, g + 1, by omega, (mb, cel 3 (ints M2)) :: (LJ3 ++ ((b10, cel 77 x.cells) :: Lo)), (by repeat (first | exact List.Sublist.refl _ | exact List.nil_sublist _ | exact List.sublist_append_left _ _ | exact (List.sublist_append_left _ _).trans (List.sublist_append_left _ _) | apply List.Sublist.cons | refine List.Sublist.trans ?_ (List.sublist_append_right _ _))), M2, LJ3, (b10, cel 77 x.cells) :: Lo, by omega, by rw [hn]; simp [hg], MarksK.next (x := x) (by rw [tgts7 h77]; exact hM2) hx (next_get hg hst) (next_ext hg hst), by rw [hvn]; exact hJ3, ⟨rfl, rfl, rfl, rfl, rfl, rfl, rfl, trivial⟩, rfl⟩
      replace h77 : ¬ ((_ : Int) = _) := h77
      have htnd : [(g : Int) + 1].Nodup := by simp
      have htr : ∀ v ∈ [(g : Int) + 1], 0 ≤ v ∧ v < l.length := by intro v hv; simp at hv; omega
      refine RL.assign rfl ?_
      refine RL.nil ?_
      refine X.cond_f rfl ?_
      refine X.skip ?_
      refine X.blk ?_
      refine X.seq ?_
      refine X.region rfl ?_
      refine RL.move rfl ?_
      refine RL.len rfl sl38 rfl ?_
      refine RL.move rfl ?_
      refine RL.nil ?_
      refine X.block ?_
      have hrow := (show Row 3 1 (.slice (some ⟨tb, 0, none⟩) 1 1) (ints [(g : Int) + 1]) [(tb, cel 3 [.int .i64 ((g : Int) + 1)])] from Row.blk tb 1 1 [.int .i64 ((g : Int) + 1)] [] rfl rfl (Nat.le_refl _))
      refine X.loop (γ := Nat) (fun k ρ L => ∃ M2, k ≤ 1 ∧ MarksK l (hts l s g) g (leftP x (markN l (hts l s g) g g - 1)) (([(g : Int) + 1]).take k) M2 ∧ Has ρ [(0, .slice A l.length c), (1, .int .i64 s), (2, .func (.func f) #[] caps.toArray), (8, .slice (some ⟨mb, 0, none⟩) l.length l.length), (15, .int .i64 (leftP x (markN l (hts l s g) g g - 1))), (32, .slice A l.length c), (33, .int .i64 l.length), (34, .int .i64 g), (135, .slice (some ⟨tb, 0, none⟩) 1 1), (136, .int .i64 (1 : Nat)), (137, .int .i64 k)] ∧ L = [(tb, cel 3 [.int .i64 ((g : Int) + 1)])] ++ ((mb, cel 3 (ints M2)) :: (LJ3 ++ ((b10, cel 77 x.cells) :: Lo)))) (fun k => 1 - k) 0 ⟨_, (List.Sublist.refl _), M, Nat.zero_le _, hM.left, ⟨rfl, rfl, rfl, rfl, rfl, rfl, rfl, rfl, rfl, rfl, rfl, trivial⟩, rfl⟩ ?_
      rintro k _ _ ⟨M2, hk, hM2, hρ, rfl⟩
      obtain ⟨base, rfl⟩ := hρ.base
      clear hρ
      refine X.seq ?_
      refine X.region rfl ?_
      refine RL.cmp_s rfl rfl rfl rfl (fun h5 => ?_) (fun h5 => ?_)
      ·replace h5 : (_ : Int) < _ := h5
       obtain ⟨tv, htv⟩ : ∃ tv, ([(g : Int) + 1])[k]? = some tv := ⟨_, List.getElem?_eq_getElem (by simp; omega)⟩
       obtain ⟨hn1, hn2⟩ := take_not htnd htv
       obtain ⟨h01, h02⟩ := htr tv (List.mem_of_getElem? htv)
       obtain ⟨tn, rfl⟩ : ∃ tn : Nat, tv = (tn : Int) := ⟨tv.toNat, by omega⟩
       have hmt := hM2.at (t := tn) (by omega) hn1
       have hml := hM2.1
       refine RL.nil ?_
       refine X.seq ?_
       refine X.cond_t rfl ?_
       refine X.skip ?_
       refine X.seq ?_
       refine X.block ?_
       refine X.seq ?_
       refine X.region rfl ?_
       refine RL.indexAddr rfl sl38 rfl rfl rfl rfl (by omega) ?_
       refine RL.loadO rfl sc3 rfl (ints_app_get (junk := []) htv) ?_
       refine RL.assign rfl ?_
       refine RL.nil ?_
       refine X.seq ?_
       refine X.seq ?_
       refine X.region rfl ?_
       refine RL.move rfl ?_
       refine RL.move rfl ?_
       refine RL.indexAddr rfl sl38 rfl rfl rfl rfl (by omega) ?_
       refine RL.loadO rfl sc3 rfl (ints_get2 hmt) ?_
       refine RL.cmp_s rfl rfl rfl rfl (fun h6 => ?_) (fun h6 => ?_)
       ·replace h6 : (_ : Int) ≠ _ := h6
        refine RL.move rfl ?_
        refine RL.move rfl ?_
        refine RL.move rfl ?_
        refine RL.indexAddr rfl sl38 rfl rfl rfl rfl (by omega) ?_
        refine RL.loadO rfl sc3 rfl (ints_get2 hmt) ?_
        refine RL.move rfl ?_
        refine RL.add rfl rfl rfl (by unfold leftP; omega) ?_
        refine RL.cmp_s rfl rfl rfl rfl (fun h7 => ?_) (fun h7 => ?_)
        ·replace h7 : (_ : Int) ≠ _ := h7
         refine RL.pick_t rfl rfl ?_
         refine RL.nil ?_
         refine X.cond_t rfl ?_
         refine X.seq ?_
         refine X.region rfl ?_
         refine RL.move rfl ?_
         refine RL.move rfl ?_
         refine RL.indexAddr rfl sl38 rfl rfl rfl rfl (by omega) ?_
         refine RL.stRow rfl rfl sc3.size rfl rfl (by omega) ?_
         refine RL.nil ?_
         refine X.exit rfl ?_
         refine X.region rfl ?_
         refine RL.add rfl rfl rfl (by omega) ?_
         refine RL.move rfl ?_
         refine RL.nil ?_
         exact X.hyp ⟨rfl, k + 1, by omega, _, (by repeat (first | exact sb0 _ | exact sb1 _ | (rw [List.append_nil]; exact sb0 _) | exact sb2 _ _ | exact sb3 _ _ _ | apply sb4 | apply sb5 | apply sb6)), M2.set tn (-1), by omega, by rw [hn2]; exact hM2.step (by omega) hn1 (by unfold mk; split <;> omega), ⟨rfl, rfl, rfl, rfl, rfl, rfl, rfl, rfl, rfl, rfl, rfl, trivial⟩, rfl⟩
        replace h7 : ¬ ((_ : Int) ≠ _) := h7
        refine RL.pick_t rfl rfl ?_
        refine RL.nil ?_
        refine X.cond_f rfl ?_
        refine X.skip ?_
        refine X.region rfl ?_
        refine RL.move rfl ?_
        refine RL.move rfl ?_
        refine RL.move rfl ?_
        refine RL.add rfl rfl rfl (by unfold leftP; omega) ?_
        refine RL.indexAddr rfl sl38 rfl rfl rfl rfl (by omega) ?_
        refine RL.stRow rfl rfl sc3.size rfl rfl (by omega) ?_
        refine RL.nil ?_
        refine X.blk ?_
        refine X.region rfl ?_
        refine RL.add rfl rfl rfl (by omega) ?_
        refine RL.move rfl ?_
        refine RL.nil ?_
        exact X.hyp ⟨rfl, k + 1, by omega, _, (by repeat (first | exact sb0 _ | exact sb1 _ | (rw [List.append_nil]; exact sb0 _) | exact sb2 _ _ | exact sb3 _ _ _ | apply sb4 | apply sb5 | apply sb6)), M2.set tn (leftP x (markN l (hts l s g) g g - 1) + 1), by omega, by rw [hn2]; exact hM2.step (by omega) hn1 (by unfold mk; split <;> omega), ⟨rfl, rfl, rfl, rfl, rfl, rfl, rfl, rfl, rfl, rfl, rfl, trivial⟩, rfl⟩
       replace h6 : ¬ ((_ : Int) ≠ _) := h6
       refine RL.move rfl ?_
       refine RL.skip rfl ?_
       refine RL.skip rfl ?_
       refine RL.skip rfl ?_
       refine RL.skip rfl ?_
       refine RL.skip rfl ?_
       refine RL.skip rfl ?_
       refine RL.skip rfl ?_
       refine RL.pick_f rfl rfl ?_
       refine RL.nil ?_
       refine X.cond_f rfl ?_
       refine X.skip ?_
       refine X.region rfl ?_
       refine RL.move rfl ?_
       refine RL.move rfl ?_
       refine RL.move rfl ?_
       refine RL.add rfl rfl rfl (by unfold leftP; omega) ?_
       refine RL.indexAddr rfl sl38 rfl rfl rfl rfl (by omega) ?_
       refine RL.stRow rfl rfl sc3.size rfl rfl (by omega) ?_
       refine RL.nil ?_
       refine X.blk ?_
       refine X.region rfl ?_
       refine RL.add rfl rfl rfl (by omega) ?_
       refine RL.move rfl ?_
       refine RL.nil ?_
       exact X.hyp ⟨rfl, k + 1, by omega, _, (by repeat (first | exact sb0 _ | exact sb1 _ | (rw [List.append_nil]; exact sb0 _) | exact sb2 _ _ | exact sb3 _ _ _ | apply sb4 | apply sb5 | apply sb6)), M2.set tn (leftP x (markN l (hts l s g) g g - 1) + 1), by omega, by rw [hn2]; exact hM2.step (by omega) hn1 (by unfold mk; split <;> omega), ⟨rfl, rfl, rfl, rfl, rfl, rfl, rfl, rfl, rfl, rfl, rfl, trivial⟩, rfl⟩
      replace h5 : ¬ ((_ : Int) < _) := h5
      obtain rfl : k = 1 := by omega
      rw [show ([(g : Int) + 1]).take 1 = [(g : Int) + 1] from rfl] at hM2
      refine RL.nil ?_
      refine X.seq ?_
      refine X.cond_f rfl ?_
      refine X.exit rfl ?_
      refine X.blk ?_
      refine X.region rfl ?_
      refine RL.add rfl rfl rfl (by omega) ?_
      refine RL.move rfl ?_
      refine RL.nil ?_
      refine X.hyp ⟨rfl, g + 1, by omega, (mb, cel 3 (ints M2)) :: (LJ3 ++ ((b10, cel 77 x.cells) :: Lo)), (by repeat (first | exact List.Sublist.refl _ | exact List.nil_sublist _ | exact List.sublist_append_left _ _ | exact (List.sublist_append_left _ _).trans (List.sublist_append_left _ _) | apply List.Sublist.cons | refine List.Sublist.trans ?_ (List.sublist_append_right _ _))), M2, LJ3, (b10, cel 77 x.cells) :: Lo, by omega, by rw [hn]; simp [hg], MarksK.next (x := x) (by rw [tgtsN h11 h77]; exact hM2) hx (next_get hg hst) (next_ext hg hst), by rw [hvn]; exact hJ3, ⟨rfl, rfl, rfl, rfl, rfl, rfl, rfl, trivial⟩, rfl⟩
     refine RL.not rfl rfl ?_
     refine RL.nil ?_
     refine X.cond_t rfl ?_
     refine X.seq ?_
     refine X.region rfl ?_
     refine RL.assign rfl ?_
     refine RL.assign rfl ?_
     refine RL.nil ?_
     refine X.ret ?_
     refine ret2 rfl ?_
     exact ⟨LJ3, (by repeat (first | exact List.Sublist.refl _ | exact List.nil_sublist _ | exact List.sublist_append_left _ _ | exact (List.sublist_append_left _ _).trans (List.sublist_append_left _ _) | apply List.Sublist.cons | refine List.Sublist.trans ?_ (List.sublist_append_right _ _))), .inr ⟨_, _, rest, hvis, hJ3, rfl⟩⟩
    replace c8 : ¬ ((_ : Int) = _) := c8
    refine RL.move rfl ?_
    refine RL.skip rfl ?_
    refine RL.skip rfl ?_
    refine RL.skip rfl ?_
    refine RL.skip rfl ?_
    refine RL.skip rfl ?_
    refine RL.skip rfl ?_
    refine RL.skip rfl ?_
    refine RL.skip rfl ?_
    refine RL.pick_f rfl rfl ?_
    refine RL.pick_f rfl rfl ?_
    refine RL.pick_t rfl rfl ?_
    refine RL.assign rfl ?_
    refine RL.nil ?_
    refine X.cond_f rfl ?_
    refine X.skip ?_
    refine X.blk ?_
    refine X.seq ?_
    refine X.seq ?_
    refine X.region rfl ?_
    refine RL.move rfl ?_
    refine RL.move rfl ?_
    refine RL.move rfl ?_
    refine RL.move rfl ?_
    have hst : stepP l s (hts l s g) = none := stepP_of hg hx (wrong0 ho (by omega) (by unfold leftP; omega) (by omega))
    obtain ⟨rest, hvis⟩ := visP_split hl hg hx hst
    have hn := hts_next hg hst
    have hvn := visN_next hg hx hst
    have hlf : leftP x (markN l (hts l s g) g g - 1) = markN l (hts l s g) g g - 1 - takeP x.op + layP x.op := rfl
    refine RL.fnV (caps := caps) (vals := [.int .i64 (g : Int), .int .i64 (markN l (hts l s g) g g - 1), .int .i64 (leftP x (markN l (hts l s g) g g - 1))]) (Lp := LJ2) (Lr := (b10, cel 77 x.cells) :: (mb, cel 3 (ints M)) :: Lo) rfl rfl rfl hf (by classical exact List.perm_iff_count.2 (fun z => by simp only [List.count_append, List.count_cons, List.count_nil, List.cons_append, List.nil_append, List.set_cons_zero, List.set_cons_succ] <;> omega)) rfl (fun w1 hst1 => hcb _ _ rest _ _ w1 hvis hJ hst1) ?_
    rintro _ LJ3 ⟨_, rfl, ⟨rfl, hJ3⟩ | ⟨rfl, hJ3⟩⟩
    ·refine RL.perm (L' := (mb, cel 3 (ints M)) :: (LJ3 ++ ((b10, cel 77 x.cells) :: Lo))) rfl (by classical exact List.perm_iff_count.2 (fun z => by simp only [List.count_append, List.count_cons, List.count_nil, List.cons_append, List.nil_append, List.set_cons_zero, List.set_cons_succ] <;> omega)) ?_
     refine RL.not rfl rfl ?_
     refine RL.nil ?_
     refine X.cond_f rfl ?_
     refine X.skip ?_
     refine X.seq ?_
     refine X.region rfl ?_
     refine RL.move rfl ?_
     refine RL.add rfl rfl rfl (by omega) ?_
     refine RL.bs1I rfl rfl sl38 zt3 rfl ?_
     intro tb htb
     refine RL.assign rfl ?_
     refine RL.nil ?_
     refine X.seq ?_
     refine X.seq ?_
     refine X.region rfl ?_
     refine RL.fieldAddr rfl fd77_0 rfl ?_
     refine RL.loadO rfl sc3 rfl rfl ?_
     refine RL.nil ?_
     refine X.block ?_
     refine X.seq ?_
     refine X.region rfl ?_
     refine RL.cmp_s rfl rfl rfl rfl (fun h11 => ?_) (fun h11 => ?_)
     ·replace h11 : (_ : Int) = _ := h11
      refine RL.assign rfl ?_
      refine RL.nil ?_
      refine X.cond_t rfl ?_
      refine X.exit rfl ?_
      refine X.region rfl ?_
      refine RL.add rfl rfl rfl (by omega) ?_
      refine RL.move rfl ?_
      refine RL.nil ?_
      refine X.hyp ⟨rfl, g + 1, by omega, (mb, cel 3 (ints M)) :: (LJ3 ++ ((b10, cel 77 x.cells) :: Lo)), (by repeat (first | exact List.Sublist.refl _ | exact List.nil_sublist _ | exact List.sublist_append_left _ _ | exact (List.sublist_append_left _ _).trans (List.sublist_append_left _ _) | apply List.Sublist.cons | refine List.Sublist.trans ?_ (List.sublist_append_right _ _))), M, LJ3, (b10, cel 77 x.cells) :: Lo, by omega, by rw [hn]; simp [hg], MarksK.next (x := x) (by rw [tgts11 h11]; exact hM.left) hx (next_get hg hst) (next_ext hg hst), by rw [hvn]; exact hJ3, ⟨rfl, rfl, rfl, rfl, rfl, rfl, rfl, trivial⟩, rfl⟩
     replace h11 : ¬ ((_ : Int) = _) := h11
     refine RL.assign rfl ?_
     refine RL.nil ?_
     refine X.cond_f rfl ?_
     refine X.seq ?_
     refine X.region rfl ?_
     refine RL.cmp_s rfl rfl rfl rfl (fun h77 => ?_) (fun h77 => ?_)
     ·replace h77 : (_ : Int) = _ := h77
      have ha7 := ok7 ho h77
      refine RL.assign rfl ?_
      refine RL.nil ?_
      refine X.cond_t rfl ?_
      refine X.region rfl ?_
      refine RL.move rfl ?_
      refine RL.move rfl ?_
      refine RL.add rfl rfl rfl (by omega) ?_
      refine RL.fieldAddr rfl fd77_1 rfl ?_
      refine RL.loadO rfl sc3 rfl rfl ?_
      refine RL.add rfl rfl rfl (by omega) ?_
      refine RL.bs1I rfl rfl sl38 zt3 rfl ?_
      intro bb3 hbb3
      refine RL.app1I (Lr := [(tb, cel 3 [.int .i64 ((g : Int) + 1)])]) (Lz := (mb, cel 3 (ints M)) :: (LJ3 ++ ((b10, cel 77 x.cells) :: Lo))) (xs := [.int .i64 ((g : Int) + 1)]) rfl rfl sl38 el_int Try.underlying38 (List.Perm.refl _) rfl rfl (Row.blk tb 1 1 [.int .i64 ((g : Int) + 1)] [] rfl rfl (Nat.le_refl _)) (by simp) (n := 2) rfl ?_
      intro A3 cp3 Lr3 hr3
      refine RL.assign rfl ?_
      refine RL.nil ?_
      refine X.blk ?_
      refine X.seq ?_
      refine X.region rfl ?_
      refine RL.move rfl ?_
      refine RL.len rfl sl38 rfl ?_
      refine RL.move rfl ?_
      refine RL.nil ?_
      refine X.block ?_
      have htnd : [(g : Int) + 1, (g : Int) + 1 + x.a].Nodup := by simp; omega
      have htr : ∀ v ∈ [(g : Int) + 1, (g : Int) + 1 + x.a], 0 ≤ v ∧ v < l.length := by intro v hv; simp at hv; omega
      have hrow := (show Row 3 1 (.slice A3 2 cp3) (ints [(g : Int) + 1, (g : Int) + 1 + x.a]) Lr3 from hr3)
      refine X.loop (γ := Nat) (fun k ρ L => ∃ M2, k ≤ 2 ∧ MarksK l (hts l s g) g (leftP x (markN l (hts l s g) g g - 1)) (([(g : Int) + 1, (g : Int) + 1 + x.a]).take k) M2 ∧ Has ρ [(0, .slice A l.length c), (1, .int .i64 s), (2, .func (.func f) #[] caps.toArray), (8, .slice (some ⟨mb, 0, none⟩) l.length l.length), (15, .int .i64 (leftP x (markN l (hts l s g) g g - 1))), (32, .slice A l.length c), (33, .int .i64 l.length), (34, .int .i64 g), (135, .slice A3 2 cp3), (136, .int .i64 (2 : Nat)), (137, .int .i64 k)] ∧ L = Lr3 ++ ((mb, cel 3 (ints M2)) :: (LJ3 ++ ((b10, cel 77 x.cells) :: Lo)))) (fun k => 2 - k) 0 ⟨_, (List.Sublist.append (List.Sublist.refl _) (List.sublist_append_left _ _)), M, Nat.zero_le _, hM.left, ⟨rfl, rfl, rfl, rfl, rfl, rfl, rfl, rfl, rfl, rfl, rfl, trivial⟩, rfl⟩ ?_
      rintro k _ _ ⟨M2, hk, hM2, hρ, rfl⟩
      obtain ⟨base, rfl⟩ := hρ.base
      clear hρ
      refine X.seq ?_
      refine X.region rfl ?_
      refine RL.cmp_s rfl rfl rfl rfl (fun h5 => ?_) (fun h5 => ?_)
      ·replace h5 : (_ : Int) < _ := h5
       obtain ⟨tv, htv⟩ : ∃ tv, ([(g : Int) + 1, (g : Int) + 1 + x.a])[k]? = some tv := ⟨_, List.getElem?_eq_getElem (by simp; omega)⟩
       obtain ⟨hn1, hn2⟩ := take_not htnd htv
       obtain ⟨h01, h02⟩ := htr tv (List.mem_of_getElem? htv)
       obtain ⟨tn, rfl⟩ : ∃ tn : Nat, tv = (tn : Int) := ⟨tv.toNat, by omega⟩
       have hmt := hM2.at (t := tn) (by omega) hn1
       have hml := hM2.1
       obtain ⟨tb2, junk, rfl, rfl⟩ := hrow.open (by omega)
       refine RL.nil ?_
       refine X.seq ?_
       refine X.cond_t rfl ?_
       refine X.skip ?_
       refine X.seq ?_
       refine X.block ?_
       refine X.seq ?_
       refine X.region rfl ?_
       refine RL.indexAddr rfl sl38 rfl rfl rfl rfl (by omega) ?_
       refine RL.loadO rfl sc3 rfl (ints_app_get htv) ?_
       refine RL.assign rfl ?_
       refine RL.nil ?_
       refine X.seq ?_
       refine X.seq ?_
       refine X.region rfl ?_
       refine RL.move rfl ?_
       refine RL.move rfl ?_
       refine RL.indexAddr rfl sl38 rfl rfl rfl rfl (by omega) ?_
       refine RL.loadO rfl sc3 rfl (ints_get2 hmt) ?_
       refine RL.cmp_s rfl rfl rfl rfl (fun h6 => ?_) (fun h6 => ?_)
       ·replace h6 : (_ : Int) ≠ _ := h6
        refine RL.move rfl ?_
        refine RL.move rfl ?_
        refine RL.move rfl ?_
        refine RL.indexAddr rfl sl38 rfl rfl rfl rfl (by omega) ?_
        refine RL.loadO rfl sc3 rfl (ints_get2 hmt) ?_
        refine RL.move rfl ?_
        refine RL.add rfl rfl rfl (by unfold leftP; omega) ?_
        refine RL.cmp_s rfl rfl rfl rfl (fun h7 => ?_) (fun h7 => ?_)
        ·replace h7 : (_ : Int) ≠ _ := h7
         refine RL.pick_t rfl rfl ?_
         refine RL.nil ?_
         refine X.cond_t rfl ?_
         refine X.seq ?_
         refine X.region rfl ?_
         refine RL.move rfl ?_
         refine RL.move rfl ?_
         refine RL.indexAddr rfl sl38 rfl rfl rfl rfl (by omega) ?_
         refine RL.stRow rfl rfl sc3.size rfl rfl (by omega) ?_
         refine RL.nil ?_
         refine X.exit rfl ?_
         refine X.region rfl ?_
         refine RL.add rfl rfl rfl (by omega) ?_
         refine RL.move rfl ?_
         refine RL.nil ?_
         exact X.hyp ⟨rfl, k + 1, by omega, _, (by repeat (first | exact sb0 _ | exact sb1 _ | (rw [List.append_nil]; exact sb0 _) | exact sb2 _ _ | exact sb3 _ _ _ | apply sb4 | apply sb5 | apply sb6)), M2.set tn (-1), by omega, by rw [hn2]; exact hM2.step (by omega) hn1 (by unfold mk; split <;> omega), ⟨rfl, rfl, rfl, rfl, rfl, rfl, rfl, rfl, rfl, rfl, rfl, trivial⟩, rfl⟩
        replace h7 : ¬ ((_ : Int) ≠ _) := h7
        refine RL.pick_t rfl rfl ?_
        refine RL.nil ?_
        refine X.cond_f rfl ?_
        refine X.skip ?_
        refine X.region rfl ?_
        refine RL.move rfl ?_
        refine RL.move rfl ?_
        refine RL.move rfl ?_
        refine RL.add rfl rfl rfl (by unfold leftP; omega) ?_
        refine RL.indexAddr rfl sl38 rfl rfl rfl rfl (by omega) ?_
        refine RL.stRow rfl rfl sc3.size rfl rfl (by omega) ?_
        refine RL.nil ?_
        refine X.blk ?_
        refine X.region rfl ?_
        refine RL.add rfl rfl rfl (by omega) ?_
        refine RL.move rfl ?_
        refine RL.nil ?_
        exact X.hyp ⟨rfl, k + 1, by omega, _, (by repeat (first | exact sb0 _ | exact sb1 _ | (rw [List.append_nil]; exact sb0 _) | exact sb2 _ _ | exact sb3 _ _ _ | apply sb4 | apply sb5 | apply sb6)), M2.set tn (leftP x (markN l (hts l s g) g g - 1) + 1), by omega, by rw [hn2]; exact hM2.step (by omega) hn1 (by unfold mk; split <;> omega), ⟨rfl, rfl, rfl, rfl, rfl, rfl, rfl, rfl, rfl, rfl, rfl, trivial⟩, rfl⟩
       replace h6 : ¬ ((_ : Int) ≠ _) := h6
       refine RL.move rfl ?_
       refine RL.skip rfl ?_
       refine RL.skip rfl ?_
       refine RL.skip rfl ?_
       refine RL.skip rfl ?_
       refine RL.skip rfl ?_
       refine RL.skip rfl ?_
       refine RL.skip rfl ?_
       refine RL.pick_f rfl rfl ?_
       refine RL.nil ?_
       refine X.cond_f rfl ?_
       refine X.skip ?_
       refine X.region rfl ?_
       refine RL.move rfl ?_
       refine RL.move rfl ?_
       refine RL.move rfl ?_
       refine RL.add rfl rfl rfl (by unfold leftP; omega) ?_
       refine RL.indexAddr rfl sl38 rfl rfl rfl rfl (by omega) ?_
       refine RL.stRow rfl rfl sc3.size rfl rfl (by omega) ?_
       refine RL.nil ?_
       refine X.blk ?_
       refine X.region rfl ?_
       refine RL.add rfl rfl rfl (by omega) ?_
       refine RL.move rfl ?_
       refine RL.nil ?_
       exact X.hyp ⟨rfl, k + 1, by omega, _, (by repeat (first | exact sb0 _ | exact sb1 _ | (rw [List.append_nil]; exact sb0 _) | exact sb2 _ _ | exact sb3 _ _ _ | apply sb4 | apply sb5 | apply sb6)), M2.set tn (leftP x (markN l (hts l s g) g g - 1) + 1), by omega, by rw [hn2]; exact hM2.step (by omega) hn1 (by unfold mk; split <;> omega), ⟨rfl, rfl, rfl, rfl, rfl, rfl, rfl, rfl, rfl, rfl, rfl, trivial⟩, rfl⟩
      replace h5 : ¬ ((_ : Int) < _) := h5
      obtain rfl : k = 2 := by omega
      rw [show ([(g : Int) + 1, (g : Int) + 1 + x.a]).take 2 = [(g : Int) + 1, (g : Int) + 1 + x.a] from rfl] at hM2
      refine RL.nil ?_
      refine X.seq ?_
      refine X.cond_f rfl ?_
      refine X.exit rfl ?_
      refine X.blk ?_
      refine X.region rfl ?_
      refine RL.add rfl rfl rfl (by omega) ?_
      refine RL.move rfl ?_
      refine RL.nil ?_
      refine X.hyp ⟨rfl, g + 1, by omega, (mb, cel 3 (ints M2)) :: (LJ3 ++ ((b10, cel 77 x.cells) :: Lo)), (by repeat (first | exact List.Sublist.refl _ | exact List.nil_sublist _ | exact List.sublist_append_left _ _ | exact (List.sublist_append_left _ _).trans (List.sublist_append_left _ _) | apply List.Sublist.cons | refine List.Sublist.trans ?_ (List.sublist_append_right _ _))), M2, LJ3, (b10, cel 77 x.cells) :: Lo, by omega, by rw [hn]; simp [hg], MarksK.next (x := x) (by rw [tgts7 h77]; exact hM2) hx (next_get hg hst) (next_ext hg hst), by rw [hvn]; exact hJ3, ⟨rfl, rfl, rfl, rfl, rfl, rfl, rfl, trivial⟩, rfl⟩
     replace h77 : ¬ ((_ : Int) = _) := h77
     have htnd : [(g : Int) + 1].Nodup := by simp
     have htr : ∀ v ∈ [(g : Int) + 1], 0 ≤ v ∧ v < l.length := by intro v hv; simp at hv; omega
     refine RL.assign rfl ?_
     refine RL.nil ?_
     refine X.cond_f rfl ?_
     refine X.skip ?_
     refine X.blk ?_
     refine X.seq ?_
     refine X.region rfl ?_
     refine RL.move rfl ?_
     refine RL.len rfl sl38 rfl ?_
     refine RL.move rfl ?_
     refine RL.nil ?_
     refine X.block ?_
     have hrow := (show Row 3 1 (.slice (some ⟨tb, 0, none⟩) 1 1) (ints [(g : Int) + 1]) [(tb, cel 3 [.int .i64 ((g : Int) + 1)])] from Row.blk tb 1 1 [.int .i64 ((g : Int) + 1)] [] rfl rfl (Nat.le_refl _))
     refine X.loop (γ := Nat) (fun k ρ L => ∃ M2, k ≤ 1 ∧ MarksK l (hts l s g) g (leftP x (markN l (hts l s g) g g - 1)) (([(g : Int) + 1]).take k) M2 ∧ Has ρ [(0, .slice A l.length c), (1, .int .i64 s), (2, .func (.func f) #[] caps.toArray), (8, .slice (some ⟨mb, 0, none⟩) l.length l.length), (15, .int .i64 (leftP x (markN l (hts l s g) g g - 1))), (32, .slice A l.length c), (33, .int .i64 l.length), (34, .int .i64 g), (135, .slice (some ⟨tb, 0, none⟩) 1 1), (136, .int .i64 (1 : Nat)), (137, .int .i64 k)] ∧ L = [(tb, cel 3 [.int .i64 ((g : Int) + 1)])] ++ ((mb, cel 3 (ints M2)) :: (LJ3 ++ ((b10, cel 77 x.cells) :: Lo)))) (fun k => 1 - k) 0 ⟨_, (List.Sublist.refl _), M, Nat.zero_le _, hM.left, ⟨rfl, rfl, rfl, rfl, rfl, rfl, rfl, rfl, rfl, rfl, rfl, trivial⟩, rfl⟩ ?_
     rintro k _ _ ⟨M2, hk, hM2, hρ, rfl⟩
     obtain ⟨base, rfl⟩ := hρ.base
     clear hρ
     refine X.seq ?_
     refine X.region rfl ?_
     refine RL.cmp_s rfl rfl rfl rfl (fun h5 => ?_) (fun h5 => ?_)
     ·replace h5 : (_ : Int) < _ := h5
      obtain ⟨tv, htv⟩ : ∃ tv, ([(g : Int) + 1])[k]? = some tv := ⟨_, List.getElem?_eq_getElem (by simp; omega)⟩
      obtain ⟨hn1, hn2⟩ := take_not htnd htv
      obtain ⟨h01, h02⟩ := htr tv (List.mem_of_getElem? htv)
      obtain ⟨tn, rfl⟩ : ∃ tn : Nat, tv = (tn : Int) := ⟨tv.toNat, by omega⟩
      have hmt := hM2.at (t := tn) (by omega) hn1
      have hml := hM2.1
      refine RL.nil ?_
      refine X.seq ?_
      refine X.cond_t rfl ?_
      refine X.skip ?_
      refine X.seq ?_
      refine X.block ?_
      refine X.seq ?_
      refine X.region rfl ?_
      refine RL.indexAddr rfl sl38 rfl rfl rfl rfl (by omega) ?_
      refine RL.loadO rfl sc3 rfl (ints_app_get (junk := []) htv) ?_
      refine RL.assign rfl ?_
      refine RL.nil ?_
      refine X.seq ?_
      refine X.seq ?_
      refine X.region rfl ?_
      refine RL.move rfl ?_
      refine RL.move rfl ?_
      refine RL.indexAddr rfl sl38 rfl rfl rfl rfl (by omega) ?_
      refine RL.loadO rfl sc3 rfl (ints_get2 hmt) ?_
      refine RL.cmp_s rfl rfl rfl rfl (fun h6 => ?_) (fun h6 => ?_)
      ·replace h6 : (_ : Int) ≠ _ := h6
       refine RL.move rfl ?_
       refine RL.move rfl ?_
       refine RL.move rfl ?_
       refine RL.indexAddr rfl sl38 rfl rfl rfl rfl (by omega) ?_
       refine RL.loadO rfl sc3 rfl (ints_get2 hmt) ?_
       refine RL.move rfl ?_
       refine RL.add rfl rfl rfl (by unfold leftP; omega) ?_
       refine RL.cmp_s rfl rfl rfl rfl (fun h7 => ?_) (fun h7 => ?_)
       ·replace h7 : (_ : Int) ≠ _ := h7
        refine RL.pick_t rfl rfl ?_
        refine RL.nil ?_
        refine X.cond_t rfl ?_
        refine X.seq ?_
        refine X.region rfl ?_
        refine RL.move rfl ?_
        refine RL.move rfl ?_
        refine RL.indexAddr rfl sl38 rfl rfl rfl rfl (by omega) ?_
        refine RL.stRow rfl rfl sc3.size rfl rfl (by omega) ?_
        refine RL.nil ?_
        refine X.exit rfl ?_
        refine X.region rfl ?_
        refine RL.add rfl rfl rfl (by omega) ?_
        refine RL.move rfl ?_
        refine RL.nil ?_
        exact X.hyp ⟨rfl, k + 1, by omega, _, (by repeat (first | exact sb0 _ | exact sb1 _ | (rw [List.append_nil]; exact sb0 _) | exact sb2 _ _ | exact sb3 _ _ _ | apply sb4 | apply sb5 | apply sb6)), M2.set tn (-1), by omega, by rw [hn2]; exact hM2.step (by omega) hn1 (by unfold mk; split <;> omega), ⟨rfl, rfl, rfl, rfl, rfl, rfl, rfl, rfl, rfl, rfl, rfl, trivial⟩, rfl⟩
       replace h7 : ¬ ((_ : Int) ≠ _) := h7
       refine RL.pick_t rfl rfl ?_
       refine RL.nil ?_
       refine X.cond_f rfl ?_
       refine X.skip ?_
       refine X.region rfl ?_
       refine RL.move rfl ?_
       refine RL.move rfl ?_
       refine RL.move rfl ?_
       refine RL.add rfl rfl rfl (by unfold leftP; omega) ?_
       refine RL.indexAddr rfl sl38 rfl rfl rfl rfl (by omega) ?_
       refine RL.stRow rfl rfl sc3.size rfl rfl (by omega) ?_
       refine RL.nil ?_
       refine X.blk ?_
       refine X.region rfl ?_
       refine RL.add rfl rfl rfl (by omega) ?_
       refine RL.move rfl ?_
       refine RL.nil ?_
       exact X.hyp ⟨rfl, k + 1, by omega, _, (by repeat (first | exact sb0 _ | exact sb1 _ | (rw [List.append_nil]; exact sb0 _) | exact sb2 _ _ | exact sb3 _ _ _ | apply sb4 | apply sb5 | apply sb6)), M2.set tn (leftP x (markN l (hts l s g) g g - 1) + 1), by omega, by rw [hn2]; exact hM2.step (by omega) hn1 (by unfold mk; split <;> omega), ⟨rfl, rfl, rfl, rfl, rfl, rfl, rfl, rfl, rfl, rfl, rfl, trivial⟩, rfl⟩
      replace h6 : ¬ ((_ : Int) ≠ _) := h6
      refine RL.move rfl ?_
      refine RL.skip rfl ?_
      refine RL.skip rfl ?_
      refine RL.skip rfl ?_
      refine RL.skip rfl ?_
      refine RL.skip rfl ?_
      refine RL.skip rfl ?_
      refine RL.skip rfl ?_
      refine RL.pick_f rfl rfl ?_
      refine RL.nil ?_
      refine X.cond_f rfl ?_
      refine X.skip ?_
      refine X.region rfl ?_
      refine RL.move rfl ?_
      refine RL.move rfl ?_
      refine RL.move rfl ?_
      refine RL.add rfl rfl rfl (by unfold leftP; omega) ?_
      refine RL.indexAddr rfl sl38 rfl rfl rfl rfl (by omega) ?_
      refine RL.stRow rfl rfl sc3.size rfl rfl (by omega) ?_
      refine RL.nil ?_
      refine X.blk ?_
      refine X.region rfl ?_
      refine RL.add rfl rfl rfl (by omega) ?_
      refine RL.move rfl ?_
      refine RL.nil ?_
      exact X.hyp ⟨rfl, k + 1, by omega, _, (by repeat (first | exact sb0 _ | exact sb1 _ | (rw [List.append_nil]; exact sb0 _) | exact sb2 _ _ | exact sb3 _ _ _ | apply sb4 | apply sb5 | apply sb6)), M2.set tn (leftP x (markN l (hts l s g) g g - 1) + 1), by omega, by rw [hn2]; exact hM2.step (by omega) hn1 (by unfold mk; split <;> omega), ⟨rfl, rfl, rfl, rfl, rfl, rfl, rfl, rfl, rfl, rfl, rfl, trivial⟩, rfl⟩
     replace h5 : ¬ ((_ : Int) < _) := h5
     obtain rfl : k = 1 := by omega
     rw [show ([(g : Int) + 1]).take 1 = [(g : Int) + 1] from rfl] at hM2
     refine RL.nil ?_
     refine X.seq ?_
     refine X.cond_f rfl ?_
     refine X.exit rfl ?_
     refine X.blk ?_
     refine X.region rfl ?_
     refine RL.add rfl rfl rfl (by omega) ?_
     refine RL.move rfl ?_
     refine RL.nil ?_
     refine X.hyp ⟨rfl, g + 1, by omega, (mb, cel 3 (ints M2)) :: (LJ3 ++ ((b10, cel 77 x.cells) :: Lo)), (by repeat (first | exact List.Sublist.refl _ | exact List.nil_sublist _ | exact List.sublist_append_left _ _ | exact (List.sublist_append_left _ _).trans (List.sublist_append_left _ _) | apply List.Sublist.cons | refine List.Sublist.trans ?_ (List.sublist_append_right _ _))), M2, LJ3, (b10, cel 77 x.cells) :: Lo, by omega, by rw [hn]; simp [hg], MarksK.next (x := x) (by rw [tgtsN h11 h77]; exact hM2) hx (next_get hg hst) (next_ext hg hst), by rw [hvn]; exact hJ3, ⟨rfl, rfl, rfl, rfl, rfl, rfl, rfl, trivial⟩, rfl⟩
    refine RL.not rfl rfl ?_
    refine RL.nil ?_
    refine X.cond_t rfl ?_
    refine X.seq ?_
    refine X.region rfl ?_
    refine RL.assign rfl ?_
    refine RL.assign rfl ?_
    refine RL.nil ?_
    refine X.ret ?_
    refine ret2 rfl ?_
    exact ⟨LJ3, (by repeat (first | exact List.Sublist.refl _ | exact List.nil_sublist _ | exact List.sublist_append_left _ _ | exact (List.sublist_append_left _ _).trans (List.sublist_append_left _ _) | apply List.Sublist.cons | refine List.Sublist.trans ?_ (List.sublist_append_right _ _))), .inr ⟨_, _, rest, hvis, hJ3, rfl⟩⟩
   replace c6 : ¬ ((_ : Int) ≠ _) := c6
   refine RL.move rfl ?_
   refine RL.skip rfl ?_
   refine RL.skip rfl ?_
   refine RL.skip rfl ?_
   refine RL.skip rfl ?_
   refine RL.skip rfl ?_
   refine RL.skip rfl ?_
   refine RL.skip rfl ?_
   refine RL.skip rfl ?_
   refine RL.skip rfl ?_
   refine RL.skip rfl ?_
   refine RL.skip rfl ?_
   refine RL.skip rfl ?_
   refine RL.skip rfl ?_
   refine RL.skip rfl ?_
   refine RL.skip rfl ?_
   refine RL.skip rfl ?_
   refine RL.skip rfl ?_
   refine RL.skip rfl ?_
   refine RL.skip rfl ?_
   refine RL.skip rfl ?_
   refine RL.pick_f rfl rfl ?_
   refine RL.assign rfl ?_
   refine RL.nil ?_
   refine X.cond_f rfl ?_
   refine X.skip ?_
   refine X.blk ?_
   refine X.seq ?_
   refine X.seq ?_
   refine X.region rfl ?_
   refine RL.move rfl ?_
   refine RL.move rfl ?_
   refine RL.move rfl ?_
   refine RL.move rfl ?_
   have hst : stepP l s (hts l s g) = none := stepP_of hg hx (wrong0 ho (by omega) (by unfold leftP; omega) (by omega))
   obtain ⟨rest, hvis⟩ := visP_split hl hg hx hst
   have hn := hts_next hg hst
   have hvn := visN_next hg hx hst
   have hlf : leftP x (markN l (hts l s g) g g - 1) = markN l (hts l s g) g g - 1 - takeP x.op + layP x.op := rfl
   refine RL.fnV (caps := caps) (vals := [.int .i64 (g : Int), .int .i64 (markN l (hts l s g) g g - 1), .int .i64 (leftP x (markN l (hts l s g) g g - 1))]) (Lp := LJ2) (Lr := (b10, cel 77 x.cells) :: (mb, cel 3 (ints M)) :: Lo) rfl rfl rfl hf (by classical exact List.perm_iff_count.2 (fun z => by simp only [List.count_append, List.count_cons, List.count_nil, List.cons_append, List.nil_append, List.set_cons_zero, List.set_cons_succ] <;> omega)) rfl (fun w1 hst1 => hcb _ _ rest _ _ w1 hvis hJ hst1) ?_
   rintro _ LJ3 ⟨_, rfl, ⟨rfl, hJ3⟩ | ⟨rfl, hJ3⟩⟩
   ·refine RL.perm (L' := (mb, cel 3 (ints M)) :: (LJ3 ++ ((b10, cel 77 x.cells) :: Lo))) rfl (by classical exact List.perm_iff_count.2 (fun z => by simp only [List.count_append, List.count_cons, List.count_nil, List.cons_append, List.nil_append, List.set_cons_zero, List.set_cons_succ] <;> omega)) ?_
    refine RL.not rfl rfl ?_
    refine RL.nil ?_
    refine X.cond_f rfl ?_
    refine X.skip ?_
    refine X.seq ?_
    refine X.region rfl ?_
    refine RL.move rfl ?_
    refine RL.add rfl rfl rfl (by omega) ?_
    refine RL.bs1I rfl rfl sl38 zt3 rfl ?_
    intro tb htb
    refine RL.assign rfl ?_
    refine RL.nil ?_
    refine X.seq ?_
    refine X.seq ?_
    refine X.region rfl ?_
    refine RL.fieldAddr rfl fd77_0 rfl ?_
    refine RL.loadO rfl sc3 rfl rfl ?_
    refine RL.nil ?_
    refine X.block ?_
    refine X.seq ?_
    refine X.region rfl ?_
    refine RL.cmp_s rfl rfl rfl rfl (fun h11 => ?_) (fun h11 => ?_)
    ·replace h11 : (_ : Int) = _ := h11
     refine RL.assign rfl ?_
     refine RL.nil ?_
     refine X.cond_t rfl ?_
     refine X.exit rfl ?_
     refine X.region rfl ?_
     refine RL.add rfl rfl rfl (by omega) ?_
     refine RL.move rfl ?_
     refine RL.nil ?_
     refine X.hyp ⟨rfl, g + 1, by omega, (mb, cel 3 (ints M)) :: (LJ3 ++ ((b10, cel 77 x.cells) :: Lo)), (by repeat (first | exact List.Sublist.refl _ | exact List.nil_sublist _ | exact List.sublist_append_left _ _ | exact (List.sublist_append_left _ _).trans (List.sublist_append_left _ _) | apply List.Sublist.cons | refine List.Sublist.trans ?_ (List.sublist_append_right _ _))), M, LJ3, (b10, cel 77 x.cells) :: Lo, by omega, by rw [hn]; simp [hg], MarksK.next (x := x) (by rw [tgts11 h11]; exact hM.left) hx (next_get hg hst) (next_ext hg hst), by rw [hvn]; exact hJ3, ⟨rfl, rfl, rfl, rfl, rfl, rfl, rfl, trivial⟩, rfl⟩
    replace h11 : ¬ ((_ : Int) = _) := h11
    refine RL.assign rfl ?_
    refine RL.nil ?_
    refine X.cond_f rfl ?_
    refine X.seq ?_
    refine X.region rfl ?_
    refine RL.cmp_s rfl rfl rfl rfl (fun h77 => ?_) (fun h77 => ?_)
    ·replace h77 : (_ : Int) = _ := h77
     have ha7 := ok7 ho h77
     refine RL.assign rfl ?_
     refine RL.nil ?_
     refine X.cond_t rfl ?_
     refine X.region rfl ?_
     refine RL.move rfl ?_
     refine RL.move rfl ?_
     refine RL.add rfl rfl rfl (by omega) ?_
     refine RL.fieldAddr rfl fd77_1 rfl ?_
     refine RL.loadO rfl sc3 rfl rfl ?_
     refine RL.add rfl rfl rfl (by omega) ?_
     refine RL.bs1I rfl rfl sl38 zt3 rfl ?_
     intro bb3 hbb3
     refine RL.app1I (Lr := [(tb, cel 3 [.int .i64 ((g : Int) + 1)])]) (Lz := (mb, cel 3 (ints M)) :: (LJ3 ++ ((b10, cel 77 x.cells) :: Lo))) (xs := [.int .i64 ((g : Int) + 1)]) rfl rfl sl38 el_int Try.underlying38 (List.Perm.refl _) rfl rfl (Row.blk tb 1 1 [.int .i64 ((g : Int) + 1)] [] rfl rfl (Nat.le_refl _)) (by simp) (n := 2) rfl ?_
     intro A3 cp3 Lr3 hr3
     refine RL.assign rfl ?_
     refine RL.nil ?_
     refine X.blk ?_
     refine X.seq ?_
     refine X.region rfl ?_
     refine RL.move rfl ?_
     refine RL.len rfl sl38 rfl ?_
     refine RL.move rfl ?_
     refine RL.nil ?_
     refine X.block ?_
     have htnd : [(g : Int) + 1, (g : Int) + 1 + x.a].Nodup := by simp; omega
     have htr : ∀ v ∈ [(g : Int) + 1, (g : Int) + 1 + x.a], 0 ≤ v ∧ v < l.length := by intro v hv; simp at hv; omega
     have hrow := (show Row 3 1 (.slice A3 2 cp3) (ints [(g : Int) + 1, (g : Int) + 1 + x.a]) Lr3 from hr3)
     refine X.loop (γ := Nat) (fun k ρ L => ∃ M2, k ≤ 2 ∧ MarksK l (hts l s g) g (leftP x (markN l (hts l s g) g g - 1)) (([(g : Int) + 1, (g : Int) + 1 + x.a]).take k) M2 ∧ Has ρ [(0, .slice A l.length c), (1, .int .i64 s), (2, .func (.func f) #[] caps.toArray), (8, .slice (some ⟨mb, 0, none⟩) l.length l.length), (15, .int .i64 (leftP x (markN l (hts l s g) g g - 1))), (32, .slice A l.length c), (33, .int .i64 l.length), (34, .int .i64 g), (135, .slice A3 2 cp3), (136, .int .i64 (2 : Nat)), (137, .int .i64 k)] ∧ L = Lr3 ++ ((mb, cel 3 (ints M2)) :: (LJ3 ++ ((b10, cel 77 x.cells) :: Lo)))) (fun k => 2 - k) 0 ⟨_, (List.Sublist.append (List.Sublist.refl _) (List.sublist_append_left _ _)), M, Nat.zero_le _, hM.left, ⟨rfl, rfl, rfl, rfl, rfl, rfl, rfl, rfl, rfl, rfl, rfl, trivial⟩, rfl⟩ ?_
     rintro k _ _ ⟨M2, hk, hM2, hρ, rfl⟩
     obtain ⟨base, rfl⟩ := hρ.base
     clear hρ
     refine X.seq ?_
     refine X.region rfl ?_
     refine RL.cmp_s rfl rfl rfl rfl (fun h5 => ?_) (fun h5 => ?_)
     ·replace h5 : (_ : Int) < _ := h5
      obtain ⟨tv, htv⟩ : ∃ tv, ([(g : Int) + 1, (g : Int) + 1 + x.a])[k]? = some tv := ⟨_, List.getElem?_eq_getElem (by simp; omega)⟩
      obtain ⟨hn1, hn2⟩ := take_not htnd htv
      obtain ⟨h01, h02⟩ := htr tv (List.mem_of_getElem? htv)
      obtain ⟨tn, rfl⟩ : ∃ tn : Nat, tv = (tn : Int) := ⟨tv.toNat, by omega⟩
      have hmt := hM2.at (t := tn) (by omega) hn1
      have hml := hM2.1
      obtain ⟨tb2, junk, rfl, rfl⟩ := hrow.open (by omega)
      refine RL.nil ?_
      refine X.seq ?_
      refine X.cond_t rfl ?_
      refine X.skip ?_
      refine X.seq ?_
      refine X.block ?_
      refine X.seq ?_
      refine X.region rfl ?_
      refine RL.indexAddr rfl sl38 rfl rfl rfl rfl (by omega) ?_
      refine RL.loadO rfl sc3 rfl (ints_app_get htv) ?_
      refine RL.assign rfl ?_
      refine RL.nil ?_
      refine X.seq ?_
      refine X.seq ?_
      refine X.region rfl ?_
      refine RL.move rfl ?_
      refine RL.move rfl ?_
      refine RL.indexAddr rfl sl38 rfl rfl rfl rfl (by omega) ?_
      refine RL.loadO rfl sc3 rfl (ints_get2 hmt) ?_
      refine RL.cmp_s rfl rfl rfl rfl (fun h6 => ?_) (fun h6 => ?_)
      ·replace h6 : (_ : Int) ≠ _ := h6
       refine RL.move rfl ?_
       refine RL.move rfl ?_
       refine RL.move rfl ?_
       refine RL.indexAddr rfl sl38 rfl rfl rfl rfl (by omega) ?_
       refine RL.loadO rfl sc3 rfl (ints_get2 hmt) ?_
       refine RL.move rfl ?_
       refine RL.add rfl rfl rfl (by unfold leftP; omega) ?_
       refine RL.cmp_s rfl rfl rfl rfl (fun h7 => ?_) (fun h7 => ?_)
       ·replace h7 : (_ : Int) ≠ _ := h7
        refine RL.pick_t rfl rfl ?_
        refine RL.nil ?_
        refine X.cond_t rfl ?_
        refine X.seq ?_
        refine X.region rfl ?_
        refine RL.move rfl ?_
        refine RL.move rfl ?_
        refine RL.indexAddr rfl sl38 rfl rfl rfl rfl (by omega) ?_
        refine RL.stRow rfl rfl sc3.size rfl rfl (by omega) ?_
        refine RL.nil ?_
        refine X.exit rfl ?_
        refine X.region rfl ?_
        refine RL.add rfl rfl rfl (by omega) ?_
        refine RL.move rfl ?_
        refine RL.nil ?_
        exact X.hyp ⟨rfl, k + 1, by omega, _, (by repeat (first | exact sb0 _ | exact sb1 _ | (rw [List.append_nil]; exact sb0 _) | exact sb2 _ _ | exact sb3 _ _ _ | apply sb4 | apply sb5 | apply sb6)), M2.set tn (-1), by omega, by rw [hn2]; exact hM2.step (by omega) hn1 (by unfold mk; split <;> omega), ⟨rfl, rfl, rfl, rfl, rfl, rfl, rfl, rfl, rfl, rfl, rfl, trivial⟩, rfl⟩
       replace h7 : ¬ ((_ : Int) ≠ _) := h7
       refine RL.pick_t rfl rfl ?_
       refine RL.nil ?_
       refine X.cond_f rfl ?_
       refine X.skip ?_
       refine X.region rfl ?_
       refine RL.move rfl ?_
       refine RL.move rfl ?_
       refine RL.move rfl ?_
       refine RL.add rfl rfl rfl (by unfold leftP; omega) ?_
       refine RL.indexAddr rfl sl38 rfl rfl rfl rfl (by omega) ?_
       refine RL.stRow rfl rfl sc3.size rfl rfl (by omega) ?_
       refine RL.nil ?_
       refine X.blk ?_
       refine X.region rfl ?_
       refine RL.add rfl rfl rfl (by omega) ?_
       refine RL.move rfl ?_
       refine RL.nil ?_
       exact X.hyp ⟨rfl, k + 1, by omega, _, (by repeat (first | exact sb0 _ | exact sb1 _ | (rw [List.append_nil]; exact sb0 _) | exact sb2 _ _ | exact sb3 _ _ _ | apply sb4 | apply sb5 | apply sb6)), M2.set tn (leftP x (markN l (hts l s g) g g - 1) + 1), by omega, by rw [hn2]; exact hM2.step (by omega) hn1 (by unfold mk; split <;> omega), ⟨rfl, rfl, rfl, rfl, rfl, rfl, rfl, rfl, rfl, rfl, rfl, trivial⟩, rfl⟩
      replace h6 : ¬ ((_ : Int) ≠ _) := h6
      refine RL.move rfl ?_
      refine RL.skip rfl ?_
      refine RL.skip rfl ?_
      refine RL.skip rfl ?_
      refine RL.skip rfl ?_
      refine RL.skip rfl ?_
      refine RL.skip rfl ?_
      refine RL.skip rfl ?_
      refine RL.pick_f rfl rfl ?_
      refine RL.nil ?_
      refine X.cond_f rfl ?_
      refine X.skip ?_
      refine X.region rfl ?_
      refine RL.move rfl ?_
      refine RL.move rfl ?_
      refine RL.move rfl ?_
      refine RL.add rfl rfl rfl (by unfold leftP; omega) ?_
      refine RL.indexAddr rfl sl38 rfl rfl rfl rfl (by omega) ?_
      refine RL.stRow rfl rfl sc3.size rfl rfl (by omega) ?_
      refine RL.nil ?_
      refine X.blk ?_
      refine X.region rfl ?_
      refine RL.add rfl rfl rfl (by omega) ?_
      refine RL.move rfl ?_
      refine RL.nil ?_
      exact X.hyp ⟨rfl, k + 1, by omega, _, (by repeat (first | exact sb0 _ | exact sb1 _ | (rw [List.append_nil]; exact sb0 _) | exact sb2 _ _ | exact sb3 _ _ _ | apply sb4 | apply sb5 | apply sb6)), M2.set tn (leftP x (markN l (hts l s g) g g - 1) + 1), by omega, by rw [hn2]; exact hM2.step (by omega) hn1 (by unfold mk; split <;> omega), ⟨rfl, rfl, rfl, rfl, rfl, rfl, rfl, rfl, rfl, rfl, rfl, trivial⟩, rfl⟩
     replace h5 : ¬ ((_ : Int) < _) := h5
     obtain rfl : k = 2 := by omega
     rw [show ([(g : Int) + 1, (g : Int) + 1 + x.a]).take 2 = [(g : Int) + 1, (g : Int) + 1 + x.a] from rfl] at hM2
     refine RL.nil ?_
     refine X.seq ?_
     refine X.cond_f rfl ?_
     refine X.exit rfl ?_
     refine X.blk ?_
     refine X.region rfl ?_
     refine RL.add rfl rfl rfl (by omega) ?_
     refine RL.move rfl ?_
     refine RL.nil ?_
     refine X.hyp ⟨rfl, g + 1, by omega, (mb, cel 3 (ints M2)) :: (LJ3 ++ ((b10, cel 77 x.cells) :: Lo)), (by repeat (first | exact List.Sublist.refl _ | exact List.nil_sublist _ | exact List.sublist_append_left _ _ | exact (List.sublist_append_left _ _).trans (List.sublist_append_left _ _) | apply List.Sublist.cons | refine List.Sublist.trans ?_ (List.sublist_append_right _ _))), M2, LJ3, (b10, cel 77 x.cells) :: Lo, by omega, by rw [hn]; simp [hg], MarksK.next (x := x) (by rw [tgts7 h77]; exact hM2) hx (next_get hg hst) (next_ext hg hst), by rw [hvn]; exact hJ3, ⟨rfl, rfl, rfl, rfl, rfl, rfl, rfl, trivial⟩, rfl⟩
    replace h77 : ¬ ((_ : Int) = _) := h77
    have htnd : [(g : Int) + 1].Nodup := by simp
    have htr : ∀ v ∈ [(g : Int) + 1], 0 ≤ v ∧ v < l.length := by intro v hv; simp at hv; omega
    refine RL.assign rfl ?_
    refine RL.nil ?_
    refine X.cond_f rfl ?_
    refine X.skip ?_
    refine X.blk ?_
    refine X.seq ?_
    refine X.region rfl ?_
    refine RL.move rfl ?_
    refine RL.len rfl sl38 rfl ?_
    refine RL.move rfl ?_
    refine RL.nil ?_
    refine X.block ?_
    have hrow := (show Row 3 1 (.slice (some ⟨tb, 0, none⟩) 1 1) (ints [(g : Int) + 1]) [(tb, cel 3 [.int .i64 ((g : Int) + 1)])] from Row.blk tb 1 1 [.int .i64 ((g : Int) + 1)] [] rfl rfl (Nat.le_refl _))
    refine X.loop (γ := Nat) (fun k ρ L => ∃ M2, k ≤ 1 ∧ MarksK l (hts l s g) g (leftP x (markN l (hts l s g) g g - 1)) (([(g : Int) + 1]).take k) M2 ∧ Has ρ [(0, .slice A l.length c), (1, .int .i64 s), (2, .func (.func f) #[] caps.toArray), (8, .slice (some ⟨mb, 0, none⟩) l.length l.length), (15, .int .i64 (leftP x (markN l (hts l s g) g g - 1))), (32, .slice A l.length c), (33, .int .i64 l.length), (34, .int .i64 g), (135, .slice (some ⟨tb, 0, none⟩) 1 1), (136, .int .i64 (1 : Nat)), (137, .int .i64 k)] ∧ L = [(tb, cel 3 [.int .i64 ((g : Int) + 1)])] ++ ((mb, cel 3 (ints M2)) :: (LJ3 ++ ((b10, cel 77 x.cells) :: Lo)))) (fun k => 1 - k) 0 ⟨_, (List.Sublist.refl _), M, Nat.zero_le _, hM.left, ⟨rfl, rfl, rfl, rfl, rfl, rfl, rfl, rfl, rfl, rfl, rfl, trivial⟩, rfl⟩ ?_
    rintro k _ _ ⟨M2, hk, hM2, hρ, rfl⟩
    obtain ⟨base, rfl⟩ := hρ.base
    clear hρ
    refine X.seq ?_
    refine X.region rfl ?_
    refine RL.cmp_s rfl rfl rfl rfl (fun h5 => ?_) (fun h5 => ?_)
    ·replace h5 : (_ : Int) < _ := h5
     obtain ⟨tv, htv⟩ : ∃ tv, ([(g : Int) + 1])[k]? = some tv := ⟨_, List.getElem?_eq_getElem (by simp; omega)⟩
     obtain ⟨hn1, hn2⟩ := take_not htnd htv
     obtain ⟨h01, h02⟩ := htr tv (List.mem_of_getElem? htv)
     obtain ⟨tn, rfl⟩ : ∃ tn : Nat, tv = (tn : Int) := ⟨tv.toNat, by omega⟩
     have hmt := hM2.at (t := tn) (by omega) hn1
     have hml := hM2.1
     refine RL.nil ?_
     refine X.seq ?_
     refine X.cond_t rfl ?_
     refine X.skip ?_
     refine X.seq ?_
     refine X.block ?_
     refine X.seq ?_
     refine X.region rfl ?_
     refine RL.indexAddr rfl sl38 rfl rfl rfl rfl (by omega) ?_
     refine RL.loadO rfl sc3 rfl (ints_app_get (junk := []) htv) ?_
     refine RL.assign rfl ?_
     refine RL.nil ?_
     refine X.seq ?_
     refine X.seq ?_
     refine X.region rfl ?_
     refine RL.move rfl ?_
     refine RL.move rfl ?_
     refine RL.indexAddr rfl sl38 rfl rfl rfl rfl (by omega) ?_
     refine RL.loadO rfl sc3 rfl (ints_get2 hmt) ?_
     refine RL.cmp_s rfl rfl rfl rfl (fun h6 => ?_) (fun h6 => ?_)
     ·replace h6 : (_ : Int) ≠ _ := h6
      refine RL.move rfl ?_
      refine RL.move rfl ?_
      refine RL.move rfl ?_
      refine RL.indexAddr rfl sl38 rfl rfl rfl rfl (by omega) ?_
      refine RL.loadO rfl sc3 rfl (ints_get2 hmt) ?_
      refine RL.move rfl ?_
      refine RL.add rfl rfl rfl (by unfold leftP; omega) ?_
      refine RL.cmp_s rfl rfl rfl rfl (fun h7 => ?_) (fun h7 => ?_)
      ·replace h7 : (_ : Int) ≠ _ := h7
       refine RL.pick_t rfl rfl ?_
       refine RL.nil ?_
       refine X.cond_t rfl ?_
       refine X.seq ?_
       refine X.region rfl ?_
       refine RL.move rfl ?_
       refine RL.move rfl ?_
       refine RL.indexAddr rfl sl38 rfl rfl rfl rfl (by omega) ?_
       refine RL.stRow rfl rfl sc3.size rfl rfl (by omega) ?_
       refine RL.nil ?_
       refine X.exit rfl ?_
       refine X.region rfl ?_
       refine RL.add rfl rfl rfl (by omega) ?_
       refine RL.move rfl ?_
       refine RL.nil ?_
       exact X.hyp ⟨rfl, k + 1, by omega, _, (by repeat (first | exact sb0 _ | exact sb1 _ | (rw [List.append_nil]; exact sb0 _) | exact sb2 _ _ | exact sb3 _ _ _ | apply sb4 | apply sb5 | apply sb6)), M2.set tn (-1), by omega, by rw [hn2]; exact hM2.step (by omega) hn1 (by unfold mk; split <;> omega), ⟨rfl, rfl, rfl, rfl, rfl, rfl, rfl, rfl, rfl, rfl, rfl, trivial⟩, rfl⟩
      replace h7 : ¬ ((_ : Int) ≠ _) := h7
      refine RL.pick_t rfl rfl ?_
      refine RL.nil ?_
      refine X.cond_f rfl ?_
      refine X.skip ?_
      refine X.region rfl ?_
      refine RL.move rfl ?_
      refine RL.move rfl ?_
      refine RL.move rfl ?_
      refine RL.add rfl rfl rfl (by unfold leftP; omega) ?_
      refine RL.indexAddr rfl sl38 rfl rfl rfl rfl (by omega) ?_
      refine RL.stRow rfl rfl sc3.size rfl rfl (by omega) ?_
      refine RL.nil ?_
      refine X.blk ?_
      refine X.region rfl ?_
      refine RL.add rfl rfl rfl (by omega) ?_
      refine RL.move rfl ?_
      refine RL.nil ?_
      exact X.hyp ⟨rfl, k + 1, by omega, _, (by repeat (first | exact sb0 _ | exact sb1 _ | (rw [List.append_nil]; exact sb0 _) | exact sb2 _ _ | exact sb3 _ _ _ | apply sb4 | apply sb5 | apply sb6)), M2.set tn (leftP x (markN l (hts l s g) g g - 1) + 1), by omega, by rw [hn2]; exact hM2.step (by omega) hn1 (by unfold mk; split <;> omega), ⟨rfl, rfl, rfl, rfl, rfl, rfl, rfl, rfl, rfl, rfl, rfl, trivial⟩, rfl⟩
     replace h6 : ¬ ((_ : Int) ≠ _) := h6
     refine RL.move rfl ?_
     refine RL.skip rfl ?_
     refine RL.skip rfl ?_
     refine RL.skip rfl ?_
     refine RL.skip rfl ?_
     refine RL.skip rfl ?_
     refine RL.skip rfl ?_
     refine RL.skip rfl ?_
     refine RL.pick_f rfl rfl ?_
     refine RL.nil ?_
     refine X.cond_f rfl ?_
     refine X.skip ?_
     refine X.region rfl ?_
     refine RL.move rfl ?_
     refine RL.move rfl ?_
     refine RL.move rfl ?_
     refine RL.add rfl rfl rfl (by unfold leftP; omega) ?_
     refine RL.indexAddr rfl sl38 rfl rfl rfl rfl (by omega) ?_
     refine RL.stRow rfl rfl sc3.size rfl rfl (by omega) ?_
     refine RL.nil ?_
     refine X.blk ?_
     refine X.region rfl ?_
     refine RL.add rfl rfl rfl (by omega) ?_
     refine RL.move rfl ?_
     refine RL.nil ?_
     exact X.hyp ⟨rfl, k + 1, by omega, _, (by repeat (first | exact sb0 _ | exact sb1 _ | (rw [List.append_nil]; exact sb0 _) | exact sb2 _ _ | exact sb3 _ _ _ | apply sb4 | apply sb5 | apply sb6)), M2.set tn (leftP x (markN l (hts l s g) g g - 1) + 1), by omega, by rw [hn2]; exact hM2.step (by omega) hn1 (by unfold mk; split <;> omega), ⟨rfl, rfl, rfl, rfl, rfl, rfl, rfl, rfl, rfl, rfl, rfl, trivial⟩, rfl⟩
    replace h5 : ¬ ((_ : Int) < _) := h5
    obtain rfl : k = 1 := by omega
    rw [show ([(g : Int) + 1]).take 1 = [(g : Int) + 1] from rfl] at hM2
    refine RL.nil ?_
    refine X.seq ?_
    refine X.cond_f rfl ?_
    refine X.exit rfl ?_
    refine X.blk ?_
    refine X.region rfl ?_
    refine RL.add rfl rfl rfl (by omega) ?_
    refine RL.move rfl ?_
    refine RL.nil ?_
    refine X.hyp ⟨rfl, g + 1, by omega, (mb, cel 3 (ints M2)) :: (LJ3 ++ ((b10, cel 77 x.cells) :: Lo)), (by repeat (first | exact List.Sublist.refl _ | exact List.nil_sublist _ | exact List.sublist_append_left _ _ | exact (List.sublist_append_left _ _).trans (List.sublist_append_left _ _) | apply List.Sublist.cons | refine List.Sublist.trans ?_ (List.sublist_append_right _ _))), M2, LJ3, (b10, cel 77 x.cells) :: Lo, by omega, by rw [hn]; simp [hg], MarksK.next (x := x) (by rw [tgtsN h11 h77]; exact hM2) hx (next_get hg hst) (next_ext hg hst), by rw [hvn]; exact hJ3, ⟨rfl, rfl, rfl, rfl, rfl, rfl, rfl, trivial⟩, rfl⟩
   refine RL.not rfl rfl ?_
   refine RL.nil ?_
   refine X.cond_t rfl ?_
   refine X.seq ?_
   refine X.region rfl ?_
   refine RL.assign rfl ?_
   refine RL.assign rfl ?_
   refine RL.nil ?_
   refine X.ret ?_
   refine ret2 rfl ?_
   exact ⟨LJ3, (by repeat (first | exact List.Sublist.refl _ | exact List.nil_sublist _ | exact List.sublist_append_left _ _ | exact (List.sublist_append_left _ _).trans (List.sublist_append_left _ _) | apply List.Sublist.cons | refine List.Sublist.trans ?_ (List.sublist_append_right _ _))), .inr ⟨_, _, rest, hvis, hJ3, rfl⟩⟩
  replace c3 : ¬ ((_ : Int) = _) := c3
  refine RL.move rfl ?_
  refine RL.skip rfl ?_
  refine RL.skip rfl ?_
  refine RL.pick_f rfl rfl ?_
  refine RL.pick_f rfl rfl ?_
  refine RL.assign rfl ?_
  refine RL.nil ?_
  refine X.cond_f rfl ?_
  refine X.seq ?_
  refine X.region rfl ?_
  refine RL.move rfl ?_
  refine RL.cmp_s rfl rfl rfl rfl (fun c10 => ?_) (fun c10 => ?_)
  ·replace c10 : (_ : Int) > _ := c10
   refine RL.assign rfl ?_
   refine RL.nil ?_
   refine X.cond_t rfl ?_
   refine X.seq ?_
   refine X.region rfl ?_
   refine RL.move rfl ?_
   refine RL.assign rfl ?_
   refine RL.assign rfl ?_
   refine RL.nil ?_
   refine X.ret ?_
   refine ret2 rfl ?_
   first
     | (exfalso; omega)
     | exact (have hw := stepP_of hg hx (wrong5 (.inr (by omega))); ⟨LJ2, (by repeat (first | exact List.Sublist.refl _ | exact List.nil_sublist _ | exact List.sublist_append_left _ _ | exact (List.sublist_append_left _ _).trans (List.sublist_append_left _ _) | apply List.Sublist.cons | refine List.Sublist.trans ?_ (List.sublist_append_right _ _))), .inl ⟨by rw [visP_wrong hl hg (by omega) hw]; exact hJ, by rw [heightP_wrong hl hg (by omega) hw]⟩⟩)
     | exact (have hw := stepP_of hg hx (wrong16 ho (by omega) (by unfold leftP; omega)); ⟨LJ2, (by repeat (first | exact List.Sublist.refl _ | exact List.nil_sublist _ | exact List.sublist_append_left _ _ | exact (List.sublist_append_left _ _).trans (List.sublist_append_left _ _) | apply List.Sublist.cons | refine List.Sublist.trans ?_ (List.sublist_append_right _ _))), .inl ⟨by rw [visP_wrong hl hg (by omega) hw]; exact hJ, by rw [heightP_wrong hl hg (by omega) hw]⟩⟩)
     | exact (have hw := stepP_of hg hx (wrong5c ho (by omega) (by unfold leftP; omega) (by omega)); ⟨LJ2, (by repeat (first | exact List.Sublist.refl _ | exact List.nil_sublist _ | exact List.sublist_append_left _ _ | exact (List.sublist_append_left _ _).trans (List.sublist_append_left _ _) | apply List.Sublist.cons | refine List.Sublist.trans ?_ (List.sublist_append_right _ _))), .inl ⟨by rw [visP_wrong hl hg (by omega) hw]; exact hJ, by rw [heightP_wrong hl hg (by omega) hw]⟩⟩)
  replace c10 : ¬ ((_ : Int) > _) := c10
  refine RL.assign rfl ?_
  refine RL.nil ?_
  refine X.cond_f rfl ?_
  refine X.seq ?_
  refine X.region rfl ?_
  refine RL.fieldAddr rfl fd77_0 rfl ?_
  refine RL.loadO rfl sc3 rfl rfl ?_
  refine RL.cmp_s rfl rfl rfl rfl (fun c11 => ?_) (fun c11 => ?_)
  ·replace c11 : (_ : Int) ≠ _ := c11
   refine RL.move rfl ?_
   refine RL.move rfl ?_
   refine RL.add rfl rfl rfl (by omega) ?_
   refine RL.move rfl ?_
   refine RL.len rfl sl78 rfl ?_
   refine RL.cmp_s rfl rfl rfl rfl (fun c12 => ?_) (fun c12 => ?_)
   ·replace c12 : (_ : Int) ≥ _ := c12
    refine RL.move rfl ?_
    refine RL.skip rfl ?_
    refine RL.skip rfl ?_
    refine RL.skip rfl ?_
    refine RL.skip rfl ?_
    refine RL.skip rfl ?_
    refine RL.skip rfl ?_
    refine RL.skip rfl ?_
    refine RL.skip rfl ?_
    refine RL.skip rfl ?_
    refine RL.skip rfl ?_
    refine RL.skip rfl ?_
    refine RL.skip rfl ?_
    refine RL.skip rfl ?_
    refine RL.pick_t rfl rfl ?_
    refine RL.pick_t rfl rfl ?_
    refine RL.assign rfl ?_
    refine RL.nil ?_
    refine X.cond_t rfl ?_
    refine X.seq ?_
    refine X.region rfl ?_
    refine RL.move rfl ?_
    refine RL.assign rfl ?_
    refine RL.assign rfl ?_
    refine RL.nil ?_
    refine X.ret ?_
    refine ret2 rfl ?_
    first
      | (exfalso; omega)
      | exact (have hw := stepP_of hg hx (wrong5 (.inr (by omega))); ⟨LJ2, (by repeat (first | exact List.Sublist.refl _ | exact List.nil_sublist _ | exact List.sublist_append_left _ _ | exact (List.sublist_append_left _ _).trans (List.sublist_append_left _ _) | apply List.Sublist.cons | refine List.Sublist.trans ?_ (List.sublist_append_right _ _))), .inl ⟨by rw [visP_wrong hl hg (by omega) hw]; exact hJ, by rw [heightP_wrong hl hg (by omega) hw]⟩⟩)
      | exact (have hw := stepP_of hg hx (wrong16 ho (by omega) (by unfold leftP; omega)); ⟨LJ2, (by repeat (first | exact List.Sublist.refl _ | exact List.nil_sublist _ | exact List.sublist_append_left _ _ | exact (List.sublist_append_left _ _).trans (List.sublist_append_left _ _) | apply List.Sublist.cons | refine List.Sublist.trans ?_ (List.sublist_append_right _ _))), .inl ⟨by rw [visP_wrong hl hg (by omega) hw]; exact hJ, by rw [heightP_wrong hl hg (by omega) hw]⟩⟩)
      | exact (have hw := stepP_of hg hx (wrong5c ho (by omega) (by unfold leftP; omega) (by omega)); ⟨LJ2, (by repeat (first | exact List.Sublist.refl _ | exact List.nil_sublist _ | exact List.sublist_append_left _ _ | exact (List.sublist_append_left _ _).trans (List.sublist_append_left _ _) | apply List.Sublist.cons | refine List.Sublist.trans ?_ (List.sublist_append_right _ _))), .inl ⟨by rw [visP_wrong hl hg (by omega) hw]; exact hJ, by rw [heightP_wrong hl hg (by omega) hw]⟩⟩)
   replace c12 : ¬ ((_ : Int) ≥ _) := c12
   refine RL.move rfl ?_
   refine RL.fieldAddr rfl fd77_0 rfl ?_
   refine RL.loadO rfl sc3 rfl rfl ?_
   refine RL.cmp_s rfl rfl rfl rfl (fun c13 => ?_) (fun c13 => ?_)
   ·replace c13 : (_ : Int) = _ := c13
    refine RL.move rfl ?_
    refine RL.fieldAddr rfl fd77_1 rfl ?_
    refine RL.loadO rfl sc3 rfl rfl ?_
    refine RL.move rfl ?_
    refine RL.len rfl sl78 rfl ?_
    refine RL.move rfl ?_
    refine RL.sub rfl rfl rfl (by omega) ?_
    refine RL.sub rfl rfl rfl (by omega) ?_
    refine RL.cmp_s rfl rfl rfl rfl (fun c14 => ?_) (fun c14 => ?_)
    ·replace c14 : (_ : Int) ≥ _ := c14
     refine RL.pick_t rfl rfl ?_
     refine RL.pick_f rfl rfl ?_
     refine RL.pick_t rfl rfl ?_
     refine RL.assign rfl ?_
     refine RL.nil ?_
     refine X.cond_t rfl ?_
     refine X.seq ?_
     refine X.region rfl ?_
     refine RL.move rfl ?_
     refine RL.assign rfl ?_
     refine RL.assign rfl ?_
     refine RL.nil ?_
     refine X.ret ?_
     refine ret2 rfl ?_
     first
       | (exfalso; omega)
       | exact (have hw := stepP_of hg hx (wrong5 (.inr (by omega))); ⟨LJ2, (by repeat (first | exact List.Sublist.refl _ | exact List.nil_sublist _ | exact List.sublist_append_left _ _ | exact (List.sublist_append_left _ _).trans (List.sublist_append_left _ _) | apply List.Sublist.cons | refine List.Sublist.trans ?_ (List.sublist_append_right _ _))), .inl ⟨by rw [visP_wrong hl hg (by omega) hw]; exact hJ, by rw [heightP_wrong hl hg (by omega) hw]⟩⟩)
       | exact (have hw := stepP_of hg hx (wrong16 ho (by omega) (by unfold leftP; omega)); ⟨LJ2, (by repeat (first | exact List.Sublist.refl _ | exact List.nil_sublist _ | exact List.sublist_append_left _ _ | exact (List.sublist_append_left _ _).trans (List.sublist_append_left _ _) | apply List.Sublist.cons | refine List.Sublist.trans ?_ (List.sublist_append_right _ _))), .inl ⟨by rw [visP_wrong hl hg (by omega) hw]; exact hJ, by rw [heightP_wrong hl hg (by omega) hw]⟩⟩)
       | exact (have hw := stepP_of hg hx (wrong5c ho (by omega) (by unfold leftP; omega) (by omega)); ⟨LJ2, (by repeat (first | exact List.Sublist.refl _ | exact List.nil_sublist _ | exact List.sublist_append_left _ _ | exact (List.sublist_append_left _ _).trans (List.sublist_append_left _ _) | apply List.Sublist.cons | refine List.Sublist.trans ?_ (List.sublist_append_right _ _))), .inl ⟨by rw [visP_wrong hl hg (by omega) hw]; exact hJ, by rw [heightP_wrong hl hg (by omega) hw]⟩⟩)
    replace c14 : ¬ ((_ : Int) ≥ _) := c14
    refine RL.pick_t rfl rfl ?_
    refine RL.pick_f rfl rfl ?_
    refine RL.pick_t rfl rfl ?_
    refine RL.assign rfl ?_
    refine RL.nil ?_
    refine X.cond_f rfl ?_
    refine X.skip ?_
    refine X.blk ?_
    refine X.seq ?_
    refine X.seq ?_
    refine X.region rfl ?_
    refine RL.move rfl ?_
    refine RL.move rfl ?_
    refine RL.move rfl ?_
    refine RL.move rfl ?_
    have hst : stepP l s (hts l s g) = none := stepP_of hg hx (wrong0 ho (by omega) (by unfold leftP; omega) (by omega))
    obtain ⟨rest, hvis⟩ := visP_split hl hg hx hst
    have hn := hts_next hg hst
    have hvn := visN_next hg hx hst
    have hlf : leftP x (markN l (hts l s g) g g - 1) = markN l (hts l s g) g g - 1 - takeP x.op + layP x.op := rfl
    refine RL.fnV (caps := caps) (vals := [.int .i64 (g : Int), .int .i64 (markN l (hts l s g) g g - 1), .int .i64 (leftP x (markN l (hts l s g) g g - 1))]) (Lp := LJ2) (Lr := (b10, cel 77 x.cells) :: (mb, cel 3 (ints M)) :: Lo) rfl rfl rfl hf (by classical exact List.perm_iff_count.2 (fun z => by simp only [List.count_append, List.count_cons, List.count_nil, List.cons_append, List.nil_append, List.set_cons_zero, List.set_cons_succ] <;> omega)) rfl (fun w1 hst1 => hcb _ _ rest _ _ w1 hvis hJ hst1) ?_
    rintro _ LJ3 ⟨_, rfl, ⟨rfl, hJ3⟩ | ⟨rfl, hJ3⟩⟩
    ·refine RL.perm (L' := (mb, cel 3 (ints M)) :: (LJ3 ++ ((b10, cel 77 x.cells) :: Lo))) rfl (by classical exact List.perm_iff_count.2 (fun z => by simp only [List.count_append, List.count_cons, List.count_nil, List.cons_append, List.nil_append, List.set_cons_zero, List.set_cons_succ] <;> omega)) ?_
     refine RL.not rfl rfl ?_
     refine RL.nil ?_
     refine X.cond_f rfl ?_
     refine X.skip ?_
     refine X.seq ?_
     refine X.region rfl ?_
     refine RL.move rfl ?_
     refine RL.add rfl rfl rfl (by omega) ?_
     refine RL.bs1I rfl rfl sl38 zt3 rfl ?_
     intro tb htb
     refine RL.assign rfl ?_
     refine RL.nil ?_
     refine X.seq ?_
     refine X.seq ?_
     refine X.region rfl ?_
     refine RL.fieldAddr rfl fd77_0 rfl ?_
     refine RL.loadO rfl sc3 rfl rfl ?_
     refine RL.nil ?_
     refine X.block ?_
     refine X.seq ?_
     refine X.region rfl ?_
     refine RL.cmp_s rfl rfl rfl rfl (fun h11 => ?_) (fun h11 => ?_)
     ·replace h11 : (_ : Int) = _ := h11
      refine RL.assign rfl ?_
      refine RL.nil ?_
      refine X.cond_t rfl ?_
      refine X.exit rfl ?_
      refine X.region rfl ?_
      refine RL.add rfl rfl rfl (by omega) ?_
      refine RL.move rfl ?_
      refine RL.nil ?_
      refine X.hyp ⟨rfl, g + 1, by omega, (mb, cel 3 (ints M)) :: (LJ3 ++ ((b10, cel 77 x.cells) :: Lo)), (by repeat (first | exact List.Sublist.refl _ | exact List.nil_sublist _ | exact List.sublist_append_left _ _ | exact (List.sublist_append_left _ _).trans (List.sublist_append_left _ _) | apply List.Sublist.cons | refine List.Sublist.trans ?_ (List.sublist_append_right _ _))), M, LJ3, (b10, cel 77 x.cells) :: Lo, by omega, by rw [hn]; simp [hg], MarksK.next (x := x) (by rw [tgts11 h11]; exact hM.left) hx (next_get hg hst) (next_ext hg hst), by rw [hvn]; exact hJ3, ⟨rfl, rfl, rfl, rfl, rfl, rfl, rfl, trivial⟩, rfl⟩
     replace h11 : ¬ ((_ : Int) = _) := h11
     refine RL.assign rfl ?_
     refine RL.nil ?_
     refine X.cond_f rfl ?_
     refine X.seq ?_
     refine X.region rfl ?_
     refine RL.cmp_s rfl rfl rfl rfl (fun h77 => ?_) (fun h77 => ?_)
     ·replace h77 : (_ : Int) = _ := h77
      have ha7 := ok7 ho h77
      refine RL.assign rfl ?_
      refine RL.nil ?_
      refine X.cond_t rfl ?_
      refine X.region rfl ?_
      refine RL.move rfl ?_
      refine RL.move rfl ?_
      refine RL.add rfl rfl rfl (by omega) ?_
      refine RL.fieldAddr rfl fd77_1 rfl ?_
      refine RL.loadO rfl sc3 rfl rfl ?_
      refine RL.add rfl rfl rfl (by omega) ?_
      refine RL.bs1I rfl rfl sl38 zt3 rfl ?_
      intro bb3 hbb3
      refine RL.app1I (Lr := [(tb, cel 3 [.int .i64 ((g : Int) + 1)])]) (Lz := (mb, cel 3 (ints M)) :: (LJ3 ++ ((b10, cel 77 x.cells) :: Lo))) (xs := [.int .i64 ((g : Int) + 1)]) rfl rfl sl38 el_int Try.underlying38 (List.Perm.refl _) rfl rfl (Row.blk tb 1 1 [.int .i64 ((g : Int) + 1)] [] rfl rfl (Nat.le_refl _)) (by simp) (n := 2) rfl ?_
      intro A3 cp3 Lr3 hr3
      refine RL.assign rfl ?_
      refine RL.nil ?_
      refine X.blk ?_
      refine X.seq ?_
      refine X.region rfl ?_
      refine RL.move rfl ?_
      refine RL.len rfl sl38 rfl ?_
      refine RL.move rfl ?_
      refine RL.nil ?_
      refine X.block ?_
      have htnd : [(g : Int) + 1, (g : Int) + 1 + x.a].Nodup := by simp; omega
      have htr : ∀ v ∈ [(g : Int) + 1, (g : Int) + 1 + x.a], 0 ≤ v ∧ v < l.length := by intro v hv; simp at hv; omega
      have hrow := (show Row 3 1 (.slice A3 2 cp3) (ints [(g : Int) + 1, (g : Int) + 1 + x.a]) Lr3 from hr3)
      refine X.loop (γ := Nat) (fun k ρ L => ∃ M2, k ≤ 2 ∧ MarksK l (hts l s g) g (leftP x (markN l (hts l s g) g g - 1)) (([(g : Int) + 1, (g : Int) + 1 + x.a]).take k) M2 ∧ Has ρ [(0, .slice A l.length c), (1, .int .i64 s), (2, .func (.func f) #[] caps.toArray), (8, .slice (some ⟨mb, 0, none⟩) l.length l.length), (15, .int .i64 (leftP x (markN l (hts l s g) g g - 1))), (32, .slice A l.length c), (33, .int .i64 l.length), (34, .int .i64 g), (135, .slice A3 2 cp3), (136, .int .i64 (2 : Nat)), (137, .int .i64 k)] ∧ L = Lr3 ++ ((mb, cel 3 (ints M2)) :: (LJ3 ++ ((b10, cel 77 x.cells) :: Lo)))) (fun k => 2 - k) 0 ⟨_, (List.Sublist.append (List.Sublist.refl _) (List.sublist_append_left _ _)), M, Nat.zero_le _, hM.left, ⟨rfl, rfl, rfl, rfl, rfl, rfl, rfl, rfl, rfl, rfl, rfl, trivial⟩, rfl⟩ ?_
      rintro k _ _ ⟨M2, hk, hM2, hρ, rfl⟩
      obtain ⟨base, rfl⟩ := hρ.base
      clear hρ
      refine X.seq ?_
      refine X.region rfl ?_
      refine RL.cmp_s rfl rfl rfl rfl (fun h5 => ?_) (fun h5 => ?_)
      ·replace h5 : (_ : Int) < _ := h5
       obtain ⟨tv, htv⟩ : ∃ tv, ([(g : Int) + 1, (g : Int) + 1 + x.a])[k]? = some tv := ⟨_, List.getElem?_eq_getElem (by simp; omega)⟩
       obtain ⟨hn1, hn2⟩ := take_not htnd htv
       obtain ⟨h01, h02⟩ := htr tv (List.mem_of_getElem? htv)
       obtain ⟨tn, rfl⟩ : ∃ tn : Nat, tv = (tn : Int) := ⟨tv.toNat, by omega⟩
       have hmt := hM2.at (t := tn) (by omega) hn1
       have hml := hM2.1
       obtain ⟨tb2, junk, rfl, rfl⟩ := hrow.open (by omega)
       refine RL.nil ?_
       refine X.seq ?_
       refine X.cond_t rfl ?_
       refine X.skip ?_
       refine X.seq ?_
       refine X.block ?_
       refine X.seq ?_
       refine X.region rfl ?_
       refine RL.indexAddr rfl sl38 rfl rfl rfl rfl (by omega) ?_
       refine RL.loadO rfl sc3 rfl (ints_app_get htv) ?_
       refine RL.assign rfl ?_
       refine RL.nil ?_
       refine X.seq ?_
       refine X.seq ?_
       refine X.region rfl ?_
       refine RL.move rfl ?_
       refine RL.move rfl ?_
       refine RL.indexAddr rfl sl38 rfl rfl rfl rfl (by omega) ?_
       refine RL.loadO rfl sc3 rfl (ints_get2 hmt) ?_
       refine RL.cmp_s rfl rfl rfl rfl (fun h6 => ?_) (fun h6 => ?_)
       ·replace h6 : (_ : Int) ≠ _ := h6
        refine RL.move rfl ?_
        refine RL.move rfl ?_
        refine RL.move rfl ?_
        refine RL.indexAddr rfl sl38 rfl rfl rfl rfl (by omega) ?_
        refine RL.loadO rfl sc3 rfl (ints_get2 hmt) ?_
        refine RL.move rfl ?_
        refine RL.add rfl rfl rfl (by unfold leftP; omega) ?_
        refine RL.cmp_s rfl rfl rfl rfl (fun h7 => ?_) (fun h7 => ?_)
        ·replace h7 : (_ : Int) ≠ _ := h7
         refine RL.pick_t rfl rfl ?_
         refine RL.nil ?_
         refine X.cond_t rfl ?_
         refine X.seq ?_
         refine X.region rfl ?_
         refine RL.move rfl ?_
         refine RL.move rfl ?_
         refine RL.indexAddr rfl sl38 rfl rfl rfl rfl (by omega) ?_
         refine RL.stRow rfl rfl sc3.size rfl rfl (by omega) ?_
         refine RL.nil ?_
         refine X.exit rfl ?_
         refine X.region rfl ?_
         refine RL.add rfl rfl rfl (by omega) ?_
         refine RL.move rfl ?_
         refine RL.nil ?_
         exact X.hyp ⟨rfl, k + 1, by omega, _, (by repeat (first | exact sb0 _ | exact sb1 _ | (rw [List.append_nil]; exact sb0 _) | exact sb2 _ _ | exact sb3 _ _ _ | apply sb4 | apply sb5 | apply sb6)), M2.set tn (-1), by omega, by rw [hn2]; exact hM2.step (by omega) hn1 (by unfold mk; split <;> omega), ⟨rfl, rfl, rfl, rfl, rfl, rfl, rfl, rfl, rfl, rfl, rfl, trivial⟩, rfl⟩
        replace h7 : ¬ ((_ : Int) ≠ _) := h7
        refine RL.pick_t rfl rfl ?_
        refine RL.nil ?_
        refine X.cond_f rfl ?_
        refine X.skip ?_
        refine X.region rfl ?_
        refine RL.move rfl ?_
        refine RL.move rfl ?_
        refine RL.move rfl ?_
        refine RL.add rfl rfl rfl (by unfold leftP; omega) ?_
        refine RL.indexAddr rfl sl38 rfl rfl rfl rfl (by omega) ?_
        refine RL.stRow rfl rfl sc3.size rfl rfl (by omega) ?_
        refine RL.nil ?_
        refine X.blk ?_
        refine X.region rfl ?_
        refine RL.add rfl rfl rfl (by omega) ?_
        refine RL.move rfl ?_
        refine RL.nil ?_
        exact X.hyp ⟨rfl, k + 1, by omega, _, (by repeat (first | exact sb0 _ | exact sb1 _ | (rw [List.append_nil]; exact sb0 _) | exact sb2 _ _ | exact sb3 _ _ _ | apply sb4 | apply sb5 | apply sb6)), M2.set tn (leftP x (markN l (hts l s g) g g - 1) + 1), by omega, by rw [hn2]; exact hM2.step (by omega) hn1 (by unfold mk; split <;> omega), ⟨rfl, rfl, rfl, rfl, rfl, rfl, rfl, rfl, rfl, rfl, rfl, trivial⟩, rfl⟩
       replace h6 : ¬ ((_ : Int) ≠ _) := h6
       refine RL.move rfl ?_
       refine RL.skip rfl ?_
       refine RL.skip rfl ?_
       refine RL.skip rfl ?_
       refine RL.skip rfl ?_
       refine RL.skip rfl ?_
       refine RL.skip rfl ?_
       refine RL.skip rfl ?_
       refine RL.pick_f rfl rfl ?_
       refine RL.nil ?_
       refine X.cond_f rfl ?_
       refine X.skip ?_
       refine X.region rfl ?_
       refine RL.move rfl ?_
       refine RL.move rfl ?_
       refine RL.move rfl ?_
       refine RL.add rfl rfl rfl (by unfold leftP; omega) ?_
       refine RL.indexAddr rfl sl38 rfl rfl rfl rfl (by omega) ?_
       refine RL.stRow rfl rfl sc3.size rfl rfl (by omega) ?_
       refine RL.nil ?_
       refine X.blk ?_
       refine X.region rfl ?_
       refine RL.add rfl rfl rfl (by omega) ?_
       refine RL.move rfl ?_
       refine RL.nil ?_
       exact X.hyp ⟨rfl, k + 1, by omega, _, (by repeat (first | exact sb0 _ | exact sb1 _ | (rw [List.append_nil]; exact sb0 _) | exact sb2 _ _ | exact sb3 _ _ _ | apply sb4 | apply sb5 | apply sb6)), M2.set tn (leftP x (markN l (hts l s g) g g - 1) + 1), by omega, by rw [hn2]; exact hM2.step (by omega) hn1 (by unfold mk; split <;> omega), ⟨rfl, rfl, rfl, rfl, rfl, rfl, rfl, rfl, rfl, rfl, rfl, trivial⟩, rfl⟩
      replace h5 : ¬ ((_ : Int) < _) := h5
      obtain rfl : k = 2 := by omega
      rw [show ([(g : Int) + 1, (g : Int) + 1 + x.a]).take 2 = [(g : Int) + 1, (g : Int) + 1 + x.a] from rfl] at hM2
      refine RL.nil ?_
      refine X.seq ?_
      refine X.cond_f rfl ?_
      refine X.exit rfl ?_
      refine X.blk ?_
      refine X.region rfl ?_
      refine RL.add rfl rfl rfl (by omega) ?_
      refine RL.move rfl ?_
      refine RL.nil ?_
      refine X.hyp ⟨rfl, g + 1, by omega, (mb, cel 3 (ints M2)) :: (LJ3 ++ ((b10, cel 77 x.cells) :: Lo)), (by repeat (first | exact List.Sublist.refl _ | exact List.nil_sublist _ | exact List.sublist_append_left _ _ | exact (List.sublist_append_left _ _).trans (List.sublist_append_left _ _) | apply List.Sublist.cons | refine List.Sublist.trans ?_ (List.sublist_append_right _ _))), M2, LJ3, (b10, cel 77 x.cells) :: Lo, by omega, by rw [hn]; simp [hg], MarksK.next (x := x) (by rw [tgts7 h77]; exact hM2) hx (next_get hg hst) (next_ext hg hst), by rw [hvn]; exact hJ3, ⟨rfl, rfl, rfl, rfl, rfl, rfl, rfl, trivial⟩, rfl⟩
     replace h77 : ¬ ((_ : Int) = _) := h77
     have htnd : [(g : Int) + 1].Nodup := by simp
     have htr : ∀ v ∈ [(g : Int) + 1], 0 ≤ v ∧ v < l.length := by intro v hv; simp at hv; omega
     refine RL.assign rfl ?_
     refine RL.nil ?_
     refine X.cond_f rfl ?_
     refine X.skip ?_
     refine X.blk ?_
     refine X.seq ?_
     refine X.region rfl ?_
     refine RL.move rfl ?_
     refine RL.len rfl sl38 rfl ?_
     refine RL.move rfl ?_
     refine RL.nil ?_
     refine X.block ?_
     have hrow := (show Row 3 1 (.slice (some ⟨tb, 0, none⟩) 1 1) (ints [(g : Int) + 1]) [(tb, cel 3 [.int .i64 ((g : Int) + 1)])] from Row.blk tb 1 1 [.int .i64 ((g : Int) + 1)] [] rfl rfl (Nat.le_refl _))
     refine X.loop (γ := Nat) (fun k ρ L => ∃ M2, k ≤ 1 ∧ MarksK l (hts l s g) g (leftP x (markN l (hts l s g) g g - 1)) (([(g : Int) + 1]).take k) M2 ∧ Has ρ [(0, .slice A l.length c), (1, .int .i64 s), (2, .func (.func f) #[] caps.toArray), (8, .slice (some ⟨mb, 0, none⟩) l.length l.length), (15, .int .i64 (leftP x (markN l (hts l s g) g g - 1))), (32, .slice A l.length c), (33, .int .i64 l.length), (34, .int .i64 g), (135, .slice (some ⟨tb, 0, none⟩) 1 1), (136, .int .i64 (1 : Nat)), (137, .int .i64 k)] ∧ L = [(tb, cel 3 [.int .i64 ((g : Int) + 1)])] ++ ((mb, cel 3 (ints M2)) :: (LJ3 ++ ((b10, cel 77 x.cells) :: Lo)))) (fun k => 1 - k) 0 ⟨_, (List.Sublist.refl _), M, Nat.zero_le _, hM.left, ⟨rfl, rfl, rfl, rfl, rfl, rfl, rfl, rfl, rfl, rfl, rfl, trivial⟩, rfl⟩ ?_
     rintro k _ _ ⟨M2, hk, hM2, hρ, rfl⟩
     obtain ⟨base, rfl⟩ := hρ.base
     clear hρ
     refine X.seq ?_
     refine X.region rfl ?_
     refine RL.cmp_s rfl rfl rfl rfl (fun h5 => ?_) (fun h5 => ?_)
     ·replace h5 : (_ : Int) < _ := h5
      obtain ⟨tv, htv⟩ : ∃ tv, ([(g : Int) + 1])[k]? = some tv := ⟨_, List.getElem?_eq_getElem (by simp; omega)⟩
      obtain ⟨hn1, hn2⟩ := take_not htnd htv
      obtain ⟨h01, h02⟩ := htr tv (List.mem_of_getElem? htv)
      obtain ⟨tn, rfl⟩ : ∃ tn : Nat, tv = (tn : Int) := ⟨tv.toNat, by omega⟩
      have hmt := hM2.at (t := tn) (by omega) hn1
      have hml := hM2.1
      refine RL.nil ?_
      refine X.seq ?_
      refine X.cond_t rfl ?_
      refine X.skip ?_
      refine X.seq ?_
      refine X.block ?_
      refine X.seq ?_
      refine X.region rfl ?_
      refine RL.indexAddr rfl sl38 rfl rfl rfl rfl (by omega) ?_
      refine RL.loadO rfl sc3 rfl (ints_app_get (junk := []) htv) ?_
      refine RL.assign rfl ?_
      refine RL.nil ?_
      refine X.seq ?_
      refine X.seq ?_
      refine X.region rfl ?_
      refine RL.move rfl ?_
      refine RL.move rfl ?_
      refine RL.indexAddr rfl sl38 rfl rfl rfl rfl (by omega) ?_
      refine RL.loadO rfl sc3 rfl (ints_get2 hmt) ?_
      refine RL.cmp_s rfl rfl rfl rfl (fun h6 => ?_) (fun h6 => ?_)
      ·replace h6 : (_ : Int) ≠ _ := h6
       refine RL.move rfl ?_
       refine RL.move rfl ?_
       refine RL.move rfl ?_
       refine RL.indexAddr rfl sl38 rfl rfl rfl rfl (by omega) ?_
       refine RL.loadO rfl sc3 rfl (ints_get2 hmt) ?_
       refine RL.move rfl ?_
       refine RL.add rfl rfl rfl (by unfold leftP; omega) ?_
       refine RL.cmp_s rfl rfl rfl rfl (fun h7 => ?_) (fun h7 => ?_)
       ·replace h7 : (_ : Int) ≠ _ := h7
        refine RL.pick_t rfl rfl ?_
        refine RL.nil ?_
        refine X.cond_t rfl ?_
        refine X.seq ?_
        refine X.region rfl ?_
        refine RL.move rfl ?_
        refine RL.move rfl ?_
        refine RL.indexAddr rfl sl38 rfl rfl rfl rfl (by omega) ?_
        refine RL.stRow rfl rfl sc3.size rfl rfl (by omega) ?_
        refine RL.nil ?_
        refine X.exit rfl ?_
        refine X.region rfl ?_
        refine RL.add rfl rfl rfl (by omega) ?_
        refine RL.move rfl ?_
        refine RL.nil ?_
        exact X.hyp ⟨rfl, k + 1, by omega, _, (by repeat (first | exact sb0 _ | exact sb1 _ | (rw [List.append_nil]; exact sb0 _) | exact sb2 _ _ | exact sb3 _ _ _ | apply sb4 | apply sb5 | apply sb6)), M2.set tn (-1), by omega, by rw [hn2]; exact hM2.step (by omega) hn1 (by unfold mk; split <;> omega), ⟨rfl, rfl, rfl, rfl, rfl, rfl, rfl, rfl, rfl, rfl, rfl, trivial⟩, rfl⟩
       replace h7 : ¬ ((_ : Int) ≠ _) := h7
       refine RL.pick_t rfl rfl ?_
       refine RL.nil ?_
       refine X.cond_f rfl ?_
       refine X.skip ?_
       refine X.region rfl ?_
       refine RL.move rfl ?_
       refine RL.move rfl ?_
       refine RL.move rfl ?_
       refine RL.add rfl rfl rfl (by unfold leftP; omega) ?_
       refine RL.indexAddr rfl sl38 rfl rfl rfl rfl (by omega) ?_
       refine RL.stRow rfl rfl sc3.size rfl rfl (by omega) ?_
       refine RL.nil ?_
       refine X.blk ?_
       refine X.region rfl ?_
       refine RL.add rfl rfl rfl (by omega) ?_
       refine RL.move rfl ?_
       refine RL.nil ?_
       exact X.hyp ⟨rfl, k + 1, by omega, _, (by repeat (first | exact sb0 _ | exact sb1 _ | (rw [List.append_nil]; exact sb0 _) | exact sb2 _ _ | exact sb3 _ _ _ | apply sb4 | apply sb5 | apply sb6)), M2.set tn (leftP x (markN l (hts l s g) g g - 1) + 1), by omega, by rw [hn2]; exact hM2.step (by omega) hn1 (by unfold mk; split <;> omega), ⟨rfl, rfl, rfl, rfl, rfl, rfl, rfl, rfl, rfl, rfl, rfl, trivial⟩, rfl⟩
      replace h6 : ¬ ((_ : Int) ≠ _) := h6
      refine RL.move rfl ?_
      refine RL.skip rfl ?_
      refine RL.skip rfl ?_
      refine RL.skip rfl ?_
      refine RL.skip rfl ?_
      refine RL.skip rfl ?_
      refine RL.skip rfl ?_
      refine RL.skip rfl ?_
      refine RL.pick_f rfl rfl ?_
      refine RL.nil ?_
      refine X.cond_f rfl ?_
      refine X.skip ?_
      refine X.region rfl ?_
      refine RL.move rfl ?_
      refine RL.move rfl ?_
      refine RL.move rfl ?_
      refine RL.add rfl rfl rfl (by unfold leftP; omega) ?_
      refine RL.indexAddr rfl sl38 rfl rfl rfl rfl (by omega) ?_
      refine RL.stRow rfl rfl sc3.size rfl rfl (by omega) ?_
      refine RL.nil ?_
      refine X.blk ?_
      refine X.region rfl ?_
      refine RL.add rfl rfl rfl (by omega) ?_
      refine RL.move rfl ?_
      refine RL.nil ?_
      exact X.hyp ⟨rfl, k + 1, by omega, _, (by repeat (first | exact sb0 _ | exact sb1 _ | (rw [List.append_nil]; exact sb0 _) | exact sb2 _ _ | exact sb3 _ _ _ | apply sb4 | apply sb5 | apply sb6)), M2.set tn (leftP x (markN l (hts l s g) g g - 1) + 1), by omega, by rw [hn2]; exact hM2.step (by omega) hn1 (by unfold mk; split <;> omega), ⟨rfl, rfl, rfl, rfl, rfl, rfl, rfl, rfl, rfl, rfl, rfl, trivial⟩, rfl⟩
     replace h5 : ¬ ((_ : Int) < _) := h5
     obtain rfl : k = 1 := by omega
     rw [show ([(g : Int) + 1]).take 1 = [(g : Int) + 1] from rfl] at hM2
     refine RL.nil ?_
     refine X.seq ?_
     refine X.cond_f rfl ?_
     refine X.exit rfl ?_
     refine X.blk ?_
     refine X.region rfl ?_
     refine RL.add rfl rfl rfl (by omega) ?_
     refine RL.move rfl ?_
     refine RL.nil ?_
     refine X.hyp ⟨rfl, g + 1, by omega, (mb, cel 3 (ints M2)) :: (LJ3 ++ ((b10, cel 77 x.cells) :: Lo)), (by repeat (first | exact List.Sublist.refl _ | exact List.nil_sublist _ | exact List.sublist_append_left _ _ | exact (List.sublist_append_left _ _).trans (List.sublist_append_left _ _) | apply List.Sublist.cons | refine List.Sublist.trans ?_ (List.sublist_append_right _ _))), M2, LJ3, (b10, cel 77 x.cells) :: Lo, by omega, by rw [hn]; simp [hg], MarksK.next (x := x) (by rw [tgtsN h11 h77]; exact hM2) hx (next_get hg hst) (next_ext hg hst), by rw [hvn]; exact hJ3, ⟨rfl, rfl, rfl, rfl, rfl, rfl, rfl, trivial⟩, rfl⟩
    refine RL.not rfl rfl ?_
    refine RL.nil ?_
    refine X.cond_t rfl ?_
    refine X.seq ?_
    refine X.region rfl ?_
    refine RL.assign rfl ?_
    refine RL.assign rfl ?_
    refine RL.nil ?_
    refine X.ret ?_
    refine ret2 rfl ?_
    exact ⟨LJ3, (by repeat (first | exact List.Sublist.refl _ | exact List.nil_sublist _ | exact List.sublist_append_left _ _ | exact (List.sublist_append_left _ _).trans (List.sublist_append_left _ _) | apply List.Sublist.cons | refine List.Sublist.trans ?_ (List.sublist_append_right _ _))), .inr ⟨_, _, rest, hvis, hJ3, rfl⟩⟩
   replace c13 : ¬ ((_ : Int) = _) := c13
   refine RL.move rfl ?_
   refine RL.skip rfl ?_
   refine RL.skip rfl ?_
   refine RL.skip rfl ?_
   refine RL.skip rfl ?_
   refine RL.skip rfl ?_
   refine RL.skip rfl ?_
   refine RL.skip rfl ?_
   refine RL.skip rfl ?_
   refine RL.pick_f rfl rfl ?_
   refine RL.pick_f rfl rfl ?_
   refine RL.pick_t rfl rfl ?_
   refine RL.assign rfl ?_
   refine RL.nil ?_
   refine X.cond_f rfl ?_
   refine X.skip ?_
   refine X.blk ?_
   refine X.seq ?_
   refine X.seq ?_
   refine X.region rfl ?_
   refine RL.move rfl ?_
   refine RL.move rfl ?_
   refine RL.move rfl ?_
   refine RL.move rfl ?_
   have hst : stepP l s (hts l s g) = none := stepP_of hg hx (wrong0 ho (by omega) (by unfold leftP; omega) (by omega))
   obtain ⟨rest, hvis⟩ := visP_split hl hg hx hst
   have hn := hts_next hg hst
   have hvn := visN_next hg hx hst
   have hlf : leftP x (markN l (hts l s g) g g - 1) = markN l (hts l s g) g g - 1 - takeP x.op + layP x.op := rfl
   refine RL.fnV (caps := caps) (vals := [.int .i64 (g : Int), .int .i64 (markN l (hts l s g) g g - 1), .int .i64 (leftP x (markN l (hts l s g) g g - 1))]) (Lp := LJ2) (Lr := (b10, cel 77 x.cells) :: (mb, cel 3 (ints M)) :: Lo) rfl rfl rfl hf (by classical exact List.perm_iff_count.2 (fun z => by simp only [List.count_append, List.count_cons, List.count_nil, List.cons_append, List.nil_append, List.set_cons_zero, List.set_cons_succ] <;> omega)) rfl (fun w1 hst1 => hcb _ _ rest _ _ w1 hvis hJ hst1) ?_
   rintro _ LJ3 ⟨_, rfl, ⟨rfl, hJ3⟩ | ⟨rfl, hJ3⟩⟩
   ·refine RL.perm (L' := (mb, cel 3 (ints M)) :: (LJ3 ++ ((b10, cel 77 x.cells) :: Lo))) rfl (by classical exact List.perm_iff_count.2 (fun z => by simp only [List.count_append, List.count_cons, List.count_nil, List.cons_append, List.nil_append, List.set_cons_zero, List.set_cons_succ] <;> omega)) ?_
    refine RL.not rfl rfl ?_
    refine RL.nil ?_
    refine X.cond_f rfl ?_
    refine X.skip ?_
    refine X.seq ?_
    refine X.region rfl ?_
    refine RL.move rfl ?_
    refine RL.add rfl rfl rfl (by omega) ?_
    refine RL.bs1I rfl rfl sl38 zt3 rfl ?_
    intro tb htb
    refine RL.assign rfl ?_
    refine RL.nil ?_
    refine X.seq ?_
    refine X.seq ?_
    refine X.region rfl ?_
    refine RL.fieldAddr rfl fd77_0 rfl ?_
    refine RL.loadO rfl sc3 rfl rfl ?_
    refine RL.nil ?_
    refine X.block ?_
    refine X.seq ?_
    refine X.region rfl ?_
    refine RL.cmp_s rfl rfl rfl rfl (fun h11 => ?_) (fun h11 => ?_)
    ·replace h11 : (_ : Int) = _ := h11
     refine RL.assign rfl ?_
     refine RL.nil ?_
     refine X.cond_t rfl ?_
     refine X.exit rfl ?_
     refine X.region rfl ?_
     refine RL.add rfl rfl rfl (by omega) ?_
     refine RL.move rfl ?_
     refine RL.nil ?_
     refine X.hyp ⟨rfl, g + 1, by omega, (mb, cel 3 (ints M)) :: (LJ3 ++ ((b10, cel 77 x.cells) :: Lo)), (by repeat (first | exact List.Sublist.refl _ | exact List.nil_sublist _ | exact List.sublist_append_left _ _ | exact (List.sublist_append_left _ _).trans (List.sublist_append_left _ _) | apply List.Sublist.cons | refine List.Sublist.trans ?_ (List.sublist_append_right _ _))), M, LJ3, (b10, cel 77 x.cells) :: Lo, by omega, by rw [hn]; simp [hg], MarksK.next (x := x) (by rw [tgts11 h11]; exact hM.left) hx (next_get hg hst) (next_ext hg hst), by rw [hvn]; exact hJ3, ⟨rfl, rfl, rfl, rfl, rfl, rfl, rfl, trivial⟩, rfl⟩
    replace h11 : ¬ ((_ : Int) = _) := h11
    refine RL.assign rfl ?_
    refine RL.nil ?_
    refine X.cond_f rfl ?_
    refine X.seq ?_
    refine X.region rfl ?_
    refine RL.cmp_s rfl rfl rfl rfl (fun h77 => ?_) (fun h77 => ?_)
    ·replace h77 : (_ : Int) = _ := h77
     have ha7 := ok7 ho h77
     refine RL.assign rfl ?_
     refine RL.nil ?_
     refine X.cond_t rfl ?_
     refine X.region rfl ?_
     refine RL.move rfl ?_
     refine RL.move rfl ?_
     refine RL.add rfl rfl rfl (by omega) ?_
     refine RL.fieldAddr rfl fd77_1 rfl ?_
     refine RL.loadO rfl sc3 rfl rfl ?_
     refine RL.add rfl rfl rfl (by omega) ?_
     refine RL.bs1I rfl rfl sl38 zt3 rfl ?_
     intro bb3 hbb3
     refine RL.app1I (Lr := [(tb, cel 3 [.int .i64 ((g : Int) + 1)])]) (Lz := (mb, cel 3 (ints M)) :: (LJ3 ++ ((b10, cel 77 x.cells) :: Lo))) (xs := [.int .i64 ((g : Int) + 1)]) rfl rfl sl38 el_int Try.underlying38 (List.Perm.refl _) rfl rfl (Row.blk tb 1 1 [.int .i64 ((g : Int) + 1)] [] rfl rfl (Nat.le_refl _)) (by simp) (n := 2) rfl ?_
     intro A3 cp3 Lr3 hr3
     refine RL.assign rfl ?_
     refine RL.nil ?_
     refine X.blk ?_
     refine X.seq ?_
     refine X.region rfl ?_
     refine RL.move rfl ?_
     refine RL.len rfl sl38 rfl ?_
     refine RL.move rfl ?_
     refine RL.nil ?_
     refine X.block ?_
     have htnd : [(g : Int) + 1, (g : Int) + 1 + x.a].Nodup := by simp; omega
     have htr : ∀ v ∈ [(g : Int) + 1, (g : Int) + 1 + x.a], 0 ≤ v ∧ v < l.length := by intro v hv; simp at hv; omega
     have hrow := (show Row 3 1 (.slice A3 2 cp3) (ints [(g : Int) + 1, (g : Int) + 1 + x.a]) Lr3 from hr3)
     refine X.loop (γ := Nat) (fun k ρ L => ∃ M2, k ≤ 2 ∧ MarksK l (hts l s g) g (leftP x (markN l (hts l s g) g g - 1)) (([(g : Int) + 1, (g : Int) + 1 + x.a]).take k) M2 ∧ Has ρ [(0, .slice A l.length c), (1, .int .i64 s), (2, .func (.func f) #[] caps.toArray), (8, .slice (some ⟨mb, 0, none⟩) l.length l.length), (15, .int .i64 (leftP x (markN l (hts l s g) g g - 1))), (32, .slice A l.length c), (33, .int .i64 l.length), (34, .int .i64 g), (135, .slice A3 2 cp3), (136, .int .i64 (2 : Nat)), (137, .int .i64 k)] ∧ L = Lr3 ++ ((mb, cel 3 (ints M2)) :: (LJ3 ++ ((b10, cel 77 x.cells) :: Lo)))) (fun k => 2 - k) 0 ⟨_, (List.Sublist.append (List.Sublist.refl _) (List.sublist_append_left _ _)), M, Nat.zero_le _, hM.left, ⟨rfl, rfl, rfl, rfl, rfl, rfl, rfl, rfl, rfl, rfl, rfl, trivial⟩, rfl⟩ ?_
     rintro k _ _ ⟨M2, hk, hM2, hρ, rfl⟩
     obtain ⟨base, rfl⟩ := hρ.base
     clear hρ
     refine X.seq ?_
     refine X.region rfl ?_
     refine RL.cmp_s rfl rfl rfl rfl (fun h5 => ?_) (fun h5 => ?_)
     ·replace h5 : (_ : Int) < _ := h5
      obtain ⟨tv, htv⟩ : ∃ tv, ([(g : Int) + 1, (g : Int) + 1 + x.a])[k]? = some tv := ⟨_, List.getElem?_eq_getElem (by simp; omega)⟩
      obtain ⟨hn1, hn2⟩ := take_not htnd htv
      obtain ⟨h01, h02⟩ := htr tv (List.mem_of_getElem? htv)
      obtain ⟨tn, rfl⟩ : ∃ tn : Nat, tv = (tn : Int) := ⟨tv.toNat, by omega⟩
      have hmt := hM2.at (t := tn) (by omega) hn1
      have hml := hM2.1
      obtain ⟨tb2, junk, rfl, rfl⟩ := hrow.open (by omega)
      refine RL.nil ?_
      refine X.seq ?_
      refine X.cond_t rfl ?_
      refine X.skip ?_
      refine X.seq ?_
      refine X.block ?_
      refine X.seq ?_
      refine X.region rfl ?_
      refine RL.indexAddr rfl sl38 rfl rfl rfl rfl (by omega) ?_
      refine RL.loadO rfl sc3 rfl (ints_app_get htv) ?_
      refine RL.assign rfl ?_
      refine RL.nil ?_
      refine X.seq ?_
      refine X.seq ?_
      refine X.region rfl ?_
      refine RL.move rfl ?_
      refine RL.move rfl ?_
      refine RL.indexAddr rfl sl38 rfl rfl rfl rfl (by omega) ?_
      refine RL.loadO rfl sc3 rfl (ints_get2 hmt) ?_
      refine RL.cmp_s rfl rfl rfl rfl (fun h6 => ?_) (fun h6 => ?_)
      ·replace h6 : (_ : Int) ≠ _ := h6
       refine RL.move rfl ?_
       refine RL.move rfl ?_
       refine RL.move rfl ?_
       refine RL.indexAddr rfl sl38 rfl rfl rfl rfl (by omega) ?_
       refine RL.loadO rfl sc3 rfl (ints_get2 hmt) ?_
       refine RL.move rfl ?_
       refine RL.add rfl rfl rfl (by unfold leftP; omega) ?_
       refine RL.cmp_s rfl rfl rfl rfl (fun h7 => ?_) (fun h7 => ?_)
       ·replace h7 : (_ : Int) ≠ _ := h7
        refine RL.pick_t rfl rfl ?_
        refine RL.nil ?_
        refine X.cond_t rfl ?_
        refine X.seq ?_
        refine X.region rfl ?_
        refine RL.move rfl ?_
        refine RL.move rfl ?_
        refine RL.indexAddr rfl sl38 rfl rfl rfl rfl (by omega) ?_
        refine RL.stRow rfl rfl sc3.size rfl rfl (by omega) ?_
        refine RL.nil ?_
        refine X.exit rfl ?_
        refine X.region rfl ?_
        refine RL.add rfl rfl rfl (by omega) ?_
        refine RL.move rfl ?_
        refine RL.nil ?_
        exact X.hyp ⟨rfl, k + 1, by omega, _, (by repeat (first | exact sb0 _ | exact sb1 _ | (rw [List.append_nil]; exact sb0 _) | exact sb2 _ _ | exact sb3 _ _ _ | apply sb4 | apply sb5 | apply sb6)), M2.set tn (-1), by omega, by rw [hn2]; exact hM2.step (by omega) hn1 (by unfold mk; split <;> omega), ⟨rfl, rfl, rfl, rfl, rfl, rfl, rfl, rfl, rfl, rfl, rfl, trivial⟩, rfl⟩
       replace h7 : ¬ ((_ : Int) ≠ _) := h7
       refine RL.pick_t rfl rfl ?_
       refine RL.nil ?_
       refine X.cond_f rfl ?_
       refine X.skip ?_
       refine X.region rfl ?_
       refine RL.move rfl ?_
       refine RL.move rfl ?_
       refine RL.move rfl ?_
       refine RL.add rfl rfl rfl (by unfold leftP; omega) ?_
       refine RL.indexAddr rfl sl38 rfl rfl rfl rfl (by omega) ?_
       refine RL.stRow rfl rfl sc3.size rfl rfl (by omega) ?_
       refine RL.nil ?_
       refine X.blk ?_
       refine X.region rfl ?_
       refine RL.add rfl rfl rfl (by omega) ?_
       refine RL.move rfl ?_
       refine RL.nil ?_
       exact X.hyp ⟨rfl, k + 1, by omega, _, (by repeat (first | exact sb0 _ | exact sb1 _ | (rw [List.append_nil]; exact sb0 _) | exact sb2 _ _ | exact sb3 _ _ _ | apply sb4 | apply sb5 | apply sb6)), M2.set tn (leftP x (markN l (hts l s g) g g - 1) + 1), by omega, by rw [hn2]; exact hM2.step (by omega) hn1 (by unfold mk; split <;> omega), ⟨rfl, rfl, rfl, rfl, rfl, rfl, rfl, rfl, rfl, rfl, rfl, trivial⟩, rfl⟩
      replace h6 : ¬ ((_ : Int) ≠ _) := h6
      refine RL.move rfl ?_
      refine RL.skip rfl ?_
      refine RL.skip rfl ?_
      refine RL.skip rfl ?_
      refine RL.skip rfl ?_
      refine RL.skip rfl ?_
      refine RL.skip rfl ?_
      refine RL.skip rfl ?_
      refine RL.pick_f rfl rfl ?_
      refine RL.nil ?_
      refine X.cond_f rfl ?_
      refine X.skip ?_
      refine X.region rfl ?_
      refine RL.move rfl ?_
      refine RL.move rfl ?_
      refine RL.move rfl ?_
      refine RL.add rfl rfl rfl (by unfold leftP; omega) ?_
      refine RL.indexAddr rfl sl38 rfl rfl rfl rfl (by omega) ?_
      refine RL.stRow rfl rfl sc3.size rfl rfl (by omega) ?_
      refine RL.nil ?_
      refine X.blk ?_
      refine X.region rfl ?_
      refine RL.add rfl rfl rfl (by omega) ?_
      refine RL.move rfl ?_
      refine RL.nil ?_
      exact X.hyp ⟨rfl, k + 1, by omega, _, (by repeat (first | exact sb0 _ | exact sb1 _ | (rw [List.append_nil]; exact sb0 _) | exact sb2 _ _ | exact sb3 _ _ _ | apply sb4 | apply sb5 | apply sb6)), M2.set tn (leftP x (markN l (hts l s g) g g - 1) + 1), by omega, by rw [hn2]; exact hM2.step (by omega) hn1 (by unfold mk; split <;> omega), ⟨rfl, rfl, rfl, rfl, rfl, rfl, rfl, rfl, rfl, rfl, rfl, trivial⟩, rfl⟩
     replace h5 : ¬ ((_ : Int) < _) := h5
     obtain rfl : k = 2 := by omega
     rw [show ([(g : Int) + 1, (g : Int) + 1 + x.a]).take 2 = [(g : Int) + 1, (g : Int) + 1 + x.a] from rfl] at hM2
     refine RL.nil ?_
     refine X.seq ?_
     refine X.cond_f rfl ?_
     refine X.exit rfl ?_
     refine X.blk ?_
     refine X.region rfl ?_
     refine RL.add rfl rfl rfl (by omega) ?_
     refine RL.move rfl ?_
     refine RL.nil ?_
     refine X.hyp ⟨rfl, g + 1, by omega, (mb, cel 3 (ints M2)) :: (LJ3 ++ ((b10, cel 77 x.cells) :: Lo)), (by repeat (first | exact List.Sublist.refl _ | exact List.nil_sublist _ | exact List.sublist_append_left _ _ | exact (List.sublist_append_left _ _).trans (List.sublist_append_left _ _) | apply List.Sublist.cons | refine List.Sublist.trans ?_ (List.sublist_append_right _ _))), M2, LJ3, (b10, cel 77 x.cells) :: Lo, by omega, by rw [hn]; simp [hg], MarksK.next (x := x) (by rw [tgts7 h77]; exact hM2) hx (next_get hg hst) (next_ext hg hst), by rw [hvn]; exact hJ3, ⟨rfl, rfl, rfl, rfl, rfl, rfl, rfl, trivial⟩, rfl⟩
    replace h77 : ¬ ((_ : Int) = _) := h77
    have htnd : [(g : Int) + 1].Nodup := by simp
    have htr : ∀ v ∈ [(g : Int) + 1], 0 ≤ v ∧ v < l.length := by intro v hv; simp at hv; omega
    refine RL.assign rfl ?_
    refine RL.nil ?_
    refine X.cond_f rfl ?_
    refine X.skip ?_
    refine X.blk ?_
    refine X.seq ?_
    refine X.region rfl ?_
    refine RL.move rfl ?_
    refine RL.len rfl sl38 rfl ?_
    refine RL.move rfl ?_
    refine RL.nil ?_
    refine X.block ?_
    have hrow := (show Row 3 1 (.slice (some ⟨tb, 0, none⟩) 1 1) (ints [(g : Int) + 1]) [(tb, cel 3 [.int .i64 ((g : Int) + 1)])] from Row.blk tb 1 1 [.int .i64 ((g : Int) + 1)] [] rfl rfl (Nat.le_refl _))
    refine X.loop (γ := Nat) (fun k ρ L => ∃ M2, k ≤ 1 ∧ MarksK l (hts l s g) g (leftP x (markN l (hts l s g) g g - 1)) (([(g : Int) + 1]).take k) M2 ∧ Has ρ [(0, .slice A l.length c), (1, .int .i64 s), (2, .func (.func f) #[] caps.toArray), (8, .slice (some ⟨mb, 0, none⟩) l.length l.length), (15, .int .i64 (leftP x (markN l (hts l s g) g g - 1))), (32, .slice A l.length c), (33, .int .i64 l.length), (34, .int .i64 g), (135, .slice (some ⟨tb, 0, none⟩) 1 1), (136, .int .i64 (1 : Nat)), (137, .int .i64 k)] ∧ L = [(tb, cel 3 [.int .i64 ((g : Int) + 1)])] ++ ((mb, cel 3 (ints M2)) :: (LJ3 ++ ((b10, cel 77 x.cells) :: Lo)))) (fun k => 1 - k) 0 ⟨_, (List.Sublist.refl _), M, Nat.zero_le _, hM.left, ⟨rfl, rfl, rfl, rfl, rfl, rfl, rfl, rfl, rfl, rfl, rfl, trivial⟩, rfl⟩ ?_
    rintro k _ _ ⟨M2, hk, hM2, hρ, rfl⟩
    obtain ⟨base, rfl⟩ := hρ.base
    clear hρ
    refine X.seq ?_
    refine X.region rfl ?_
    refine RL.cmp_s rfl rfl rfl rfl (fun h5 => ?_) (fun h5 => ?_)
    ·replace h5 : (_ : Int) < _ := h5
     obtain ⟨tv, htv⟩ : ∃ tv, ([(g : Int) + 1])[k]? = some tv := ⟨_, List.getElem?_eq_getElem (by simp; omega)⟩
     obtain ⟨hn1, hn2⟩ := take_not htnd htv
     obtain ⟨h01, h02⟩ := htr tv (List.mem_of_getElem? htv)
     obtain ⟨tn, rfl⟩ : ∃ tn : Nat, tv = (tn : Int) := ⟨tv.toNat, by omega⟩
     have hmt := hM2.at (t := tn) (by omega) hn1
     have hml := hM2.1
     refine RL.nil ?_
     refine X.seq ?_
     refine X.cond_t rfl ?_
     refine X.skip ?_
     refine X.seq ?_
     refine X.block ?_
     refine X.seq ?_
     refine X.region rfl ?_
     refine RL.indexAddr rfl sl38 rfl rfl rfl rfl (by omega) ?_
     refine RL.loadO rfl sc3 rfl (ints_app_get (junk := []) htv) ?_
     refine RL.assign rfl ?_
     refine RL.nil ?_
     refine X.seq ?_
     refine X.seq ?_
     refine X.region rfl ?_
     refine RL.move rfl ?_
     refine RL.move rfl ?_
     refine RL.indexAddr rfl sl38 rfl rfl rfl rfl (by omega) ?_
     refine RL.loadO rfl sc3 rfl (ints_get2 hmt) ?_
     refine RL.cmp_s rfl rfl rfl rfl (fun h6 => ?_) (fun h6 => ?_)
     ·replace h6 : (_ : Int) ≠ _ := h6
      refine RL.move rfl ?_
      refine RL.move rfl ?_
      refine RL.move rfl ?_
      refine RL.indexAddr rfl sl38 rfl rfl rfl rfl (by omega) ?_
      refine RL.loadO rfl sc3 rfl (ints_get2 hmt) ?_
      refine RL.move rfl ?_
      refine RL.add rfl rfl rfl (by unfold leftP; omega) ?_
      refine RL.cmp_s rfl rfl rfl rfl (fun h7 => ?_) (fun h7 => ?_)
      ·replace h7 : (_ : Int) ≠ _ := h7
       refine RL.pick_t rfl rfl ?_
       refine RL.nil ?_
       refine X.cond_t rfl ?_
       refine X.seq ?_
       refine X.region rfl ?_
       refine RL.move rfl ?_
       refine RL.move rfl ?_
       refine RL.indexAddr rfl sl38 rfl rfl rfl rfl (by omega) ?_
       refine RL.stRow rfl rfl sc3.size rfl rfl (by omega) ?_
       refine RL.nil ?_
       refine X.exit rfl ?_
       refine X.region rfl ?_
       refine RL.add rfl rfl rfl (by omega) ?_
       refine RL.move rfl ?_
       refine RL.nil ?_
       exact X.hyp ⟨rfl, k + 1, by omega, _, (by repeat (first | exact sb0 _ | exact sb1 _ | (rw [List.append_nil]; exact sb0 _) | exact sb2 _ _ | exact sb3 _ _ _ | apply sb4 | apply sb5 | apply sb6)), M2.set tn (-1), by omega, by rw [hn2]; exact hM2.step (by omega) hn1 (by unfold mk; split <;> omega), ⟨rfl, rfl, rfl, rfl, rfl, rfl, rfl, rfl, rfl, rfl, rfl, trivial⟩, rfl⟩
      replace h7 : ¬ ((_ : Int) ≠ _) := h7
      refine RL.pick_t rfl rfl ?_
      refine RL.nil ?_
      refine X.cond_f rfl ?_
      refine X.skip ?_
      refine X.region rfl ?_
      refine RL.move rfl ?_
      refine RL.move rfl ?_
      refine RL.move rfl ?_
      refine RL.add rfl rfl rfl (by unfold leftP; omega) ?_
      refine RL.indexAddr rfl sl38 rfl rfl rfl rfl (by omega) ?_
      refine RL.stRow rfl rfl sc3.size rfl rfl (by omega) ?_
      refine RL.nil ?_
      refine X.blk ?_
      refine X.region rfl ?_
      refine RL.add rfl rfl rfl (by omega) ?_
      refine RL.move rfl ?_
      refine RL.nil ?_
      exact X.hyp ⟨rfl, k + 1, by omega, _, (by repeat (first | exact sb0 _ | exact sb1 _ | (rw [List.append_nil]; exact sb0 _) | exact sb2 _ _ | exact sb3 _ _ _ | apply sb4 | apply sb5 | apply sb6)), M2.set tn (leftP x (markN l (hts l s g) g g - 1) + 1), by omega, by rw [hn2]; exact hM2.step (by omega) hn1 (by unfold mk; split <;> omega), ⟨rfl, rfl, rfl, rfl, rfl, rfl, rfl, rfl, rfl, rfl, rfl, trivial⟩, rfl⟩
     replace h6 : ¬ ((_ : Int) ≠ _) := h6
     refine RL.move rfl ?_
     refine RL.skip rfl ?_
     refine RL.skip rfl ?_
     refine RL.skip rfl ?_
     refine RL.skip rfl ?_
     refine RL.skip rfl ?_
     refine RL.skip rfl ?_
     refine RL.skip rfl ?_
     refine RL.pick_f rfl rfl ?_
     refine RL.nil ?_
     refine X.cond_f rfl ?_
     refine X.skip ?_
     refine X.region rfl ?_
     refine RL.move rfl ?_
     refine RL.move rfl ?_
     refine RL.move rfl ?_
     refine RL.add rfl rfl rfl (by unfold leftP; omega) ?_
     refine RL.indexAddr rfl sl38 rfl rfl rfl rfl (by omega) ?_
     refine RL.stRow rfl rfl sc3.size rfl rfl (by omega) ?_
     refine RL.nil ?_
     refine X.blk ?_
     refine X.region rfl ?_
     refine RL.add rfl rfl rfl (by omega) ?_
     refine RL.move rfl ?_
     refine RL.nil ?_
     exact X.hyp ⟨rfl, k + 1, by omega, _, (by repeat (first | exact sb0 _ | exact sb1 _ | (rw [List.append_nil]; exact sb0 _) | exact sb2 _ _ | exact sb3 _ _ _ | apply sb4 | apply sb5 | apply sb6)), M2.set tn (leftP x (markN l (hts l s g) g g - 1) + 1), by omega, by rw [hn2]; exact hM2.step (by omega) hn1 (by unfold mk; split <;> omega), ⟨rfl, rfl, rfl, rfl, rfl, rfl, rfl, rfl, rfl, rfl, rfl, trivial⟩, rfl⟩
    replace h5 : ¬ ((_ : Int) < _) := h5
    obtain rfl : k = 1 := by omega
    rw [show ([(g : Int) + 1]).take 1 = [(g : Int) + 1] from rfl] at hM2
    refine RL.nil ?_
    refine X.seq ?_
    refine X.cond_f rfl ?_
    refine X.exit rfl ?_
    refine X.blk ?_
    refine X.region rfl ?_
    refine RL.add rfl rfl rfl (by omega) ?_
    refine RL.move rfl ?_
    refine RL.nil ?_
    refine X.hyp ⟨rfl, g + 1, by omega, (mb, cel 3 (ints M2)) :: (LJ3 ++ ((b10, cel 77 x.cells) :: Lo)), (by repeat (first | exact List.Sublist.refl _ | exact List.nil_sublist _ | exact List.sublist_append_left _ _ | exact (List.sublist_append_left _ _).trans (List.sublist_append_left _ _) | apply List.Sublist.cons | refine List.Sublist.trans ?_ (List.sublist_append_right _ _))), M2, LJ3, (b10, cel 77 x.cells) :: Lo, by omega, by rw [hn]; simp [hg], MarksK.next (x := x) (by rw [tgtsN h11 h77]; exact hM2) hx (next_get hg hst) (next_ext hg hst), by rw [hvn]; exact hJ3, ⟨rfl, rfl, rfl, rfl, rfl, rfl, rfl, trivial⟩, rfl⟩
   refine RL.not rfl rfl ?_
   refine RL.nil ?_
   refine X.cond_t rfl ?_
   refine X.seq ?_
   refine X.region rfl ?_
   refine RL.assign rfl ?_
   refine RL.assign rfl ?_
   refine RL.nil ?_
   refine X.ret ?_
   refine ret2 rfl ?_
   exact ⟨LJ3, (by repeat (first | exact List.Sublist.refl _ | exact List.nil_sublist _ | exact List.sublist_append_left _ _ | exact (List.sublist_append_left _ _).trans (List.sublist_append_left _ _) | apply List.Sublist.cons | refine List.Sublist.trans ?_ (List.sublist_append_right _ _))), .inr ⟨_, _, rest, hvis, hJ3, rfl⟩⟩
  replace c11 : ¬ ((_ : Int) ≠ _) := c11
  refine RL.move rfl ?_
  refine RL.skip rfl ?_
  refine RL.skip rfl ?_
  refine RL.skip rfl ?_
  refine RL.skip rfl ?_
  refine RL.skip rfl ?_
  refine RL.skip rfl ?_
  refine RL.skip rfl ?_
  refine RL.skip rfl ?_
  refine RL.skip rfl ?_
  refine RL.skip rfl ?_
  refine RL.skip rfl ?_
  refine RL.skip rfl ?_
  refine RL.skip rfl ?_
  refine RL.skip rfl ?_
  refine RL.skip rfl ?_
  refine RL.skip rfl ?_
  refine RL.skip rfl ?_
  refine RL.skip rfl ?_
  refine RL.skip rfl ?_
  refine RL.skip rfl ?_
  refine RL.pick_f rfl rfl ?_
  refine RL.assign rfl ?_
  refine RL.nil ?_
  refine X.cond_f rfl ?_
  refine X.skip ?_
  refine X.blk ?_
  refine X.seq ?_
  refine X.seq ?_
  refine X.region rfl ?_
  refine RL.move rfl ?_
  refine RL.move rfl ?_
  refine RL.move rfl ?_
  refine RL.move rfl ?_
  have hst : stepP l s (hts l s g) = none := stepP_of hg hx (wrong0 ho (by omega) (by unfold leftP; omega) (by omega))
  obtain ⟨rest, hvis⟩ := visP_split hl hg hx hst
  have hn := hts_next hg hst
  have hvn := visN_next hg hx hst
  have hlf : leftP x (markN l (hts l s g) g g - 1) = markN l (hts l s g) g g - 1 - takeP x.op + layP x.op := rfl
  refine RL.fnV (caps := caps) (vals := [.int .i64 (g : Int), .int .i64 (markN l (hts l s g) g g - 1), .int .i64 (leftP x (markN l (hts l s g) g g - 1))]) (Lp := LJ2) (Lr := (b10, cel 77 x.cells) :: (mb, cel 3 (ints M)) :: Lo) rfl rfl rfl hf (by classical exact List.perm_iff_count.2 (fun z => by simp only [List.count_append, List.count_cons, List.count_nil, List.cons_append, List.nil_append, List.set_cons_zero, List.set_cons_succ] <;> omega)) rfl (fun w1 hst1 => hcb _ _ rest _ _ w1 hvis hJ hst1) ?_
  rintro _ LJ3 ⟨_, rfl, ⟨rfl, hJ3⟩ | ⟨rfl, hJ3⟩⟩
  ·refine RL.perm (L' := (mb, cel 3 (ints M)) :: (LJ3 ++ ((b10, cel 77 x.cells) :: Lo))) rfl (by classical exact List.perm_iff_count.2 (fun z => by simp only [List.count_append, List.count_cons, List.count_nil, List.cons_append, List.nil_append, List.set_cons_zero, List.set_cons_succ] <;> omega)) ?_
   refine RL.not rfl rfl ?_
   refine RL.nil ?_
   refine X.cond_f rfl ?_
   refine X.skip ?_
   refine X.seq ?_
   refine X.region rfl ?_
   refine RL.move rfl ?_
   refine RL.add rfl rfl rfl (by omega) ?_
   refine RL.bs1I rfl rfl sl38 zt3 rfl ?_
   intro tb htb
   refine RL.assign rfl ?_
   refine RL.nil ?_
   refine X.seq ?_
   refine X.seq ?_
   refine X.region rfl ?_
   refine RL.fieldAddr rfl fd77_0 rfl ?_
   refine RL.loadO rfl sc3 rfl rfl ?_
   refine RL.nil ?_
   refine X.block ?_
   refine X.seq ?_
   refine X.region rfl ?_
   refine RL.cmp_s rfl rfl rfl rfl (fun h11 => ?_) (fun h11 => ?_)
   ·replace h11 : (_ : Int) = _ := h11
    refine RL.assign rfl ?_
    refine RL.nil ?_
    refine X.cond_t rfl ?_
    refine X.exit rfl ?_
    refine X.region rfl ?_
    refine RL.add rfl rfl rfl (by omega) ?_
    refine RL.move rfl ?_
    refine RL.nil ?_
    refine X.hyp ⟨rfl, g + 1, by omega, (mb, cel 3 (ints M)) :: (LJ3 ++ ((b10, cel 77 x.cells) :: Lo)), (by repeat (first | exact List.Sublist.refl _ | exact List.nil_sublist _ | exact List.sublist_append_left _ _ | exact (List.sublist_append_left _ _).trans (List.sublist_append_left _ _) | apply List.Sublist.cons | refine List.Sublist.trans ?_ (List.sublist_append_right _ _))), M, LJ3, (b10, cel 77 x.cells) :: Lo, by omega, by rw [hn]; simp [hg], MarksK.next (x := x) (by rw [tgts11 h11]; exact hM.left) hx (next_get hg hst) (next_ext hg hst), by rw [hvn]; exact hJ3, ⟨rfl, rfl, rfl, rfl, rfl, rfl, rfl, trivial⟩, rfl⟩
   replace h11 : ¬ ((_ : Int) = _) := h11
   refine RL.assign rfl ?_
   refine RL.nil ?_
   refine X.cond_f rfl ?_
   refine X.seq ?_
   refine X.region rfl ?_
   refine RL.cmp_s rfl rfl rfl rfl (fun h77 => ?_) (fun h77 => ?_)
   ·replace h77 : (_ : Int) = _ := h77
    have ha7 := ok7 ho h77
    refine RL.assign rfl ?_
    refine RL.nil ?_
    refine X.cond_t rfl ?_
    refine X.region rfl ?_
    refine RL.move rfl ?_
    refine RL.move rfl ?_
    refine RL.add rfl rfl rfl (by omega) ?_
    refine RL.fieldAddr rfl fd77_1 rfl ?_
    refine RL.loadO rfl sc3 rfl rfl ?_
    refine RL.add rfl rfl rfl (by omega) ?_
    refine RL.bs1I rfl rfl sl38 zt3 rfl ?_
    intro bb3 hbb3
    refine RL.app1I (Lr := [(tb, cel 3 [.int .i64 ((g : Int) + 1)])]) (Lz := (mb, cel 3 (ints M)) :: (LJ3 ++ ((b10, cel 77 x.cells) :: Lo))) (xs := [.int .i64 ((g : Int) + 1)]) rfl rfl sl38 el_int Try.underlying38 (List.Perm.refl _) rfl rfl (Row.blk tb 1 1 [.int .i64 ((g : Int) + 1)] [] rfl rfl (Nat.le_refl _)) (by simp) (n := 2) rfl ?_
    intro A3 cp3 Lr3 hr3
    refine RL.assign rfl ?_
    refine RL.nil ?_
    refine X.blk ?_
    refine X.seq ?_
    refine X.region rfl ?_
    refine RL.move rfl ?_
    refine RL.len rfl sl38 rfl ?_
    refine RL.move rfl ?_
    refine RL.nil ?_
    refine X.block ?_
    have htnd : [(g : Int) + 1, (g : Int) + 1 + x.a].Nodup := by simp; omega
    have htr : ∀ v ∈ [(g : Int) + 1, (g : Int) + 1 + x.a], 0 ≤ v ∧ v < l.length := by intro v hv; simp at hv; omega
    have hrow := (show Row 3 1 (.slice A3 2 cp3) (ints [(g : Int) + 1, (g : Int) + 1 + x.a]) Lr3 from hr3)
    refine X.loop (γ := Nat) (fun k ρ L => ∃ M2, k ≤ 2 ∧ MarksK l (hts l s g) g (leftP x (markN l (hts l s g) g g - 1)) (([(g : Int) + 1, (g : Int) + 1 + x.a]).take k) M2 ∧ Has ρ [(0, .slice A l.length c), (1, .int .i64 s), (2, .func (.func f) #[] caps.toArray), (8, .slice (some ⟨mb, 0, none⟩) l.length l.length), (15, .int .i64 (leftP x (markN l (hts l s g) g g - 1))), (32, .slice A l.length c), (33, .int .i64 l.length), (34, .int .i64 g), (135, .slice A3 2 cp3), (136, .int .i64 (2 : Nat)), (137, .int .i64 k)] ∧ L = Lr3 ++ ((mb, cel 3 (ints M2)) :: (LJ3 ++ ((b10, cel 77 x.cells) :: Lo)))) (fun k => 2 - k) 0 ⟨_, (List.Sublist.append (List.Sublist.refl _) (List.sublist_append_left _ _)), M, Nat.zero_le _, hM.left, ⟨rfl, rfl, rfl, rfl, rfl, rfl, rfl, rfl, rfl, rfl, rfl, trivial⟩, rfl⟩ ?_
    rintro k _ _ ⟨M2, hk, hM2, hρ, rfl⟩
    obtain ⟨base, rfl⟩ := hρ.base
    clear hρ
    refine X.seq ?_
    refine X.region rfl ?_
    refine RL.cmp_s rfl rfl rfl rfl (fun h5 => ?_) (fun h5 => ?_)
    ·replace h5 : (_ : Int) < _ := h5
     obtain ⟨tv, htv⟩ : ∃ tv, ([(g : Int) + 1, (g : Int) + 1 + x.a])[k]? = some tv := ⟨_, List.getElem?_eq_getElem (by simp; omega)⟩
     obtain ⟨hn1, hn2⟩ := take_not htnd htv
     obtain ⟨h01, h02⟩ := htr tv (List.mem_of_getElem? htv)
     obtain ⟨tn, rfl⟩ : ∃ tn : Nat, tv = (tn : Int) := ⟨tv.toNat, by omega⟩
     have hmt := hM2.at (t := tn) (by omega) hn1
     have hml := hM2.1
     obtain ⟨tb2, junk, rfl, rfl⟩ := hrow.open (by omega)
     refine RL.nil ?_
     refine X.seq ?_
     refine X.cond_t rfl ?_
     refine X.skip ?_
     refine X.seq ?_
     refine X.block ?_
     refine X.seq ?_
     refine X.region rfl ?_
     refine RL.indexAddr rfl sl38 rfl rfl rfl rfl (by omega) ?_
     refine RL.loadO rfl sc3 rfl (ints_app_get htv) ?_
     refine RL.assign rfl ?_
     refine RL.nil ?_
     refine X.seq ?_
     refine X.seq ?_
     refine X.region rfl ?_
     refine RL.move rfl ?_
     refine RL.move rfl ?_
     refine RL.indexAddr rfl sl38 rfl rfl rfl rfl (by omega) ?_
     refine RL.loadO rfl sc3 rfl (ints_get2 hmt) ?_
     refine RL.cmp_s rfl rfl rfl rfl (fun h6 => ?_) (fun h6 => ?_)
     ·replace h6 : (_ : Int) ≠ _ := h6
      refine RL.move rfl ?_
      refine RL.move rfl ?_
      refine RL.move rfl ?_
      refine RL.indexAddr rfl sl38 rfl rfl rfl rfl (by omega) ?_
      refine RL.loadO rfl sc3 rfl (ints_get2 hmt) ?_
      refine RL.move rfl ?_
      refine RL.add rfl rfl rfl (by unfold leftP; omega) ?_
      refine RL.cmp_s rfl rfl rfl rfl (fun h7 => ?_) (fun h7 => ?_)
      ·replace h7 : (_ : Int) ≠ _ := h7
       refine RL.pick_t rfl rfl ?_
       refine RL.nil ?_
       refine X.cond_t rfl ?_
       refine X.seq ?_
       refine X.region rfl ?_
       refine RL.move rfl ?_
       refine RL.move rfl ?_
       refine RL.indexAddr rfl sl38 rfl rfl rfl rfl (by omega) ?_
       refine RL.stRow rfl rfl sc3.size rfl rfl (by omega) ?_
       refine RL.nil ?_
       refine X.exit rfl ?_
       refine X.region rfl ?_
       refine RL.add rfl rfl rfl (by omega) ?_
       refine RL.move rfl ?_
       refine RL.nil ?_
       exact X.hyp ⟨rfl, k + 1, by omega, _, (by repeat (first | exact sb0 _ | exact sb1 _ | (rw [List.append_nil]; exact sb0 _) | exact sb2 _ _ | exact sb3 _ _ _ | apply sb4 | apply sb5 | apply sb6)), M2.set tn (-1), by omega, by rw [hn2]; exact hM2.step (by omega) hn1 (by unfold mk; split <;> omega), ⟨rfl, rfl, rfl, rfl, rfl, rfl, rfl, rfl, rfl, rfl, rfl, trivial⟩, rfl⟩
      replace h7 : ¬ ((_ : Int) ≠ _) := h7
      refine RL.pick_t rfl rfl ?_
      refine RL.nil ?_
      refine X.cond_f rfl ?_
      refine X.skip ?_
      refine X.region rfl ?_
      refine RL.move rfl ?_
      refine RL.move rfl ?_
      refine RL.move rfl ?_
      refine RL.add rfl rfl rfl (by unfold leftP; omega) ?_
      refine RL.indexAddr rfl sl38 rfl rfl rfl rfl (by omega) ?_
      refine RL.stRow rfl rfl sc3.size rfl rfl (by omega) ?_
      refine RL.nil ?_
      refine X.blk ?_
      refine X.region rfl ?_
      refine RL.add rfl rfl rfl (by omega) ?_
      refine RL.move rfl ?_
      refine RL.nil ?_
      exact X.hyp ⟨rfl, k + 1, by omega, _, (by repeat (first | exact sb0 _ | exact sb1 _ | (rw [List.append_nil]; exact sb0 _) | exact sb2 _ _ | exact sb3 _ _ _ | apply sb4 | apply sb5 | apply sb6)), M2.set tn (leftP x (markN l (hts l s g) g g - 1) + 1), by omega, by rw [hn2]; exact hM2.step (by omega) hn1 (by unfold mk; split <;> omega), ⟨rfl, rfl, rfl, rfl, rfl, rfl, rfl, rfl, rfl, rfl, rfl, trivial⟩, rfl⟩
     replace h6 : ¬ ((_ : Int) ≠ _) := h6
     refine RL.move rfl ?_
     refine RL.skip rfl ?_
     refine RL.skip rfl ?_
     refine RL.skip rfl ?_
     refine RL.skip rfl ?_
     refine RL.skip rfl ?_
     refine RL.skip rfl ?_
     refine RL.skip rfl ?_
     refine RL.pick_f rfl rfl ?_
     refine RL.nil ?_
     refine X.cond_f rfl ?_
     refine X.skip ?_
     refine X.region rfl ?_
     refine RL.move rfl ?_
     refine RL.move rfl ?_
     refine RL.move rfl ?_
     refine RL.add rfl rfl rfl (by unfold leftP; omega) ?_
     refine RL.indexAddr rfl sl38 rfl rfl rfl rfl (by omega) ?_
     refine RL.stRow rfl rfl sc3.size rfl rfl (by omega) ?_
     refine RL.nil ?_
     refine X.blk ?_
     refine X.region rfl ?_
     refine RL.add rfl rfl rfl (by omega) ?_
     refine RL.move rfl ?_
     refine RL.nil ?_
     exact X.hyp ⟨rfl, k + 1, by omega, _, (by repeat (first | exact sb0 _ | exact sb1 _ | (rw [List.append_nil]; exact sb0 _) | exact sb2 _ _ | exact sb3 _ _ _ | apply sb4 | apply sb5 | apply sb6)), M2.set tn (leftP x (markN l (hts l s g) g g - 1) + 1), by omega, by rw [hn2]; exact hM2.step (by omega) hn1 (by unfold mk; split <;> omega), ⟨rfl, rfl, rfl, rfl, rfl, rfl, rfl, rfl, rfl, rfl, rfl, trivial⟩, rfl⟩
    replace h5 : ¬ ((_ : Int) < _) := h5
    obtain rfl : k = 2 := by omega
    rw [show ([(g : Int) + 1, (g : Int) + 1 + x.a]).take 2 = [(g : Int) + 1, (g : Int) + 1 + x.a] from rfl] at hM2
    refine RL.nil ?_
    refine X.seq ?_
    refine X.cond_f rfl ?_
    refine X.exit rfl ?_
    refine X.blk ?_
    refine X.region rfl ?_
    refine RL.add rfl rfl rfl (by omega) ?_
    refine RL.move rfl ?_
    refine RL.nil ?_
    refine X.hyp ⟨rfl, g + 1, by omega, (mb, cel 3 (ints M2)) :: (LJ3 ++ ((b10, cel 77 x.cells) :: Lo)), (by repeat (first | exact List.Sublist.refl _ | exact List.nil_sublist _ | exact List.sublist_append_left _ _ | exact (List.sublist_append_left _ _).trans (List.sublist_append_left _ _) | apply List.Sublist.cons | refine List.Sublist.trans ?_ (List.sublist_append_right _ _))), M2, LJ3, (b10, cel 77 x.cells) :: Lo, by omega, by rw [hn]; simp [hg], MarksK.next (x := x) (by rw [tgts7 h77]; exact hM2) hx (next_get hg hst) (next_ext hg hst), by rw [hvn]; exact hJ3, ⟨rfl, rfl, rfl, rfl, rfl, rfl, rfl, trivial⟩, rfl⟩
   replace h77 : ¬ ((_ : Int) = _) := h77
   have htnd : [(g : Int) + 1].Nodup := by simp
   have htr : ∀ v ∈ [(g : Int) + 1], 0 ≤ v ∧ v < l.length := by intro v hv; simp at hv; omega
   refine RL.assign rfl ?_
   refine RL.nil ?_
   refine X.cond_f rfl ?_
   refine X.skip ?_
   refine X.blk ?_
   refine X.seq ?_
   refine X.region rfl ?_
   refine RL.move rfl ?_
   refine RL.len rfl sl38 rfl ?_
   refine RL.move rfl ?_
   refine RL.nil ?_
   refine X.block ?_
   have hrow := (show Row 3 1 (.slice (some ⟨tb, 0, none⟩) 1 1) (ints [(g : Int) + 1]) [(tb, cel 3 [.int .i64 ((g : Int) + 1)])] from Row.blk tb 1 1 [.int .i64 ((g : Int) + 1)] [] rfl rfl (Nat.le_refl _))
   refine X.loop (γ := Nat) (fun k ρ L => ∃ M2, k ≤ 1 ∧ MarksK l (hts l s g) g (leftP x (markN l (hts l s g) g g - 1)) (([(g : Int) + 1]).take k) M2 ∧ Has ρ [(0, .slice A l.length c), (1, .int .i64 s), (2, .func (.func f) #[] caps.toArray), (8, .slice (some ⟨mb, 0, none⟩) l.length l.length), (15, .int .i64 (leftP x (markN l (hts l s g) g g - 1))), (32, .slice A l.length c), (33, .int .i64 l.length), (34, .int .i64 g), (135, .slice (some ⟨tb, 0, none⟩) 1 1), (136, .int .i64 (1 : Nat)), (137, .int .i64 k)] ∧ L = [(tb, cel 3 [.int .i64 ((g : Int) + 1)])] ++ ((mb, cel 3 (ints M2)) :: (LJ3 ++ ((b10, cel 77 x.cells) :: Lo)))) (fun k => 1 - k) 0 ⟨_, (List.Sublist.refl _), M, Nat.zero_le _, hM.left, ⟨rfl, rfl, rfl, rfl, rfl, rfl, rfl, rfl, rfl, rfl, rfl, trivial⟩, rfl⟩ ?_
   rintro k _ _ ⟨M2, hk, hM2, hρ, rfl⟩
   obtain ⟨base, rfl⟩ := hρ.base
   clear hρ
   refine X.seq ?_
   refine X.region rfl ?_
   refine RL.cmp_s rfl rfl rfl rfl (fun h5 => ?_) (fun h5 => ?_)
   ·replace h5 : (_ : Int) < _ := h5
    obtain ⟨tv, htv⟩ : ∃ tv, ([(g : Int) + 1])[k]? = some tv := ⟨_, List.getElem?_eq_getElem (by simp; omega)⟩
    obtain ⟨hn1, hn2⟩ := take_not htnd htv
    obtain ⟨h01, h02⟩ := htr tv (List.mem_of_getElem? htv)
    obtain ⟨tn, rfl⟩ : ∃ tn : Nat, tv = (tn : Int) := ⟨tv.toNat, by omega⟩
    have hmt := hM2.at (t := tn) (by omega) hn1
    have hml := hM2.1
    refine RL.nil ?_
    refine X.seq ?_
    refine X.cond_t rfl ?_
    refine X.skip ?_
    refine X.seq ?_
    refine X.block ?_
    refine X.seq ?_
    refine X.region rfl ?_
    refine RL.indexAddr rfl sl38 rfl rfl rfl rfl (by omega) ?_
    refine RL.loadO rfl sc3 rfl (ints_app_get (junk := []) htv) ?_
    refine RL.assign rfl ?_
    refine RL.nil ?_
    refine X.seq ?_
    refine X.seq ?_
    refine X.region rfl ?_
    refine RL.move rfl ?_
    refine RL.move rfl ?_
    refine RL.indexAddr rfl sl38 rfl rfl rfl rfl (by omega) ?_
    refine RL.loadO rfl sc3 rfl (ints_get2 hmt) ?_
    refine RL.cmp_s rfl rfl rfl rfl (fun h6 => ?_) (fun h6 => ?_)
    ·replace h6 : (_ : Int) ≠ _ := h6
     refine RL.move rfl ?_
     refine RL.move rfl ?_
     refine RL.move rfl ?_
     refine RL.indexAddr rfl sl38 rfl rfl rfl rfl (by omega) ?_
     refine RL.loadO rfl sc3 rfl (ints_get2 hmt) ?_
     refine RL.move rfl ?_
     refine RL.add rfl rfl rfl (by unfold leftP; omega) ?_
     refine RL.cmp_s rfl rfl rfl rfl (fun h7 => ?_) (fun h7 => ?_)
     ·replace h7 : (_ : Int) ≠ _ := h7
      refine RL.pick_t rfl rfl ?_
      refine RL.nil ?_
      refine X.cond_t rfl ?_
      refine X.seq ?_
      refine X.region rfl ?_
      refine RL.move rfl ?_
      refine RL.move rfl ?_
      refine RL.indexAddr rfl sl38 rfl rfl rfl rfl (by omega) ?_
      refine RL.stRow rfl rfl sc3.size rfl rfl (by omega) ?_
      refine RL.nil ?_
      refine X.exit rfl ?_
      refine X.region rfl ?_
      refine RL.add rfl rfl rfl (by omega) ?_
      refine RL.move rfl ?_
      refine RL.nil ?_
      exact X.hyp ⟨rfl, k + 1, by omega, _, (by repeat (first | exact sb0 _ | exact sb1 _ | (rw [List.append_nil]; exact sb0 _) | exact sb2 _ _ | exact sb3 _ _ _ | apply sb4 | apply sb5 | apply sb6)), M2.set tn (-1), by omega, by rw [hn2]; exact hM2.step (by omega) hn1 (by unfold mk; split <;> omega), ⟨rfl, rfl, rfl, rfl, rfl, rfl, rfl, rfl, rfl, rfl, rfl, trivial⟩, rfl⟩
     replace h7 : ¬ ((_ : Int) ≠ _) := h7
     refine RL.pick_t rfl rfl ?_
     refine RL.nil ?_
     refine X.cond_f rfl ?_
     refine X.skip ?_
     refine X.region rfl ?_
     refine RL.move rfl ?_
     refine RL.move rfl ?_
     refine RL.move rfl ?_
     refine RL.add rfl rfl rfl (by unfold leftP; omega) ?_
     refine RL.indexAddr rfl sl38 rfl rfl rfl rfl (by omega) ?_
     refine RL.stRow rfl rfl sc3.size rfl rfl (by omega) ?_
     refine RL.nil ?_
     refine X.blk ?_
     refine X.region rfl ?_
     refine RL.add rfl rfl rfl (by omega) ?_
     refine RL.move rfl ?_
     refine RL.nil ?_
     exact X.hyp ⟨rfl, k + 1, by omega, _, (by repeat (first | exact sb0 _ | exact sb1 _ | (rw [List.append_nil]; exact sb0 _) | exact sb2 _ _ | exact sb3 _ _ _ | apply sb4 | apply sb5 | apply sb6)), M2.set tn (leftP x (markN l (hts l s g) g g - 1) + 1), by omega, by rw [hn2]; exact hM2.step (by omega) hn1 (by unfold mk; split <;> omega), ⟨rfl, rfl, rfl, rfl, rfl, rfl, rfl, rfl, rfl, rfl, rfl, trivial⟩, rfl⟩
    replace h6 : ¬ ((_ : Int) ≠ _) := h6
    refine RL.move rfl ?_
    refine RL.skip rfl ?_
    refine RL.skip rfl ?_
    refine RL.skip rfl ?_
    refine RL.skip rfl ?_
    refine RL.skip rfl ?_
    refine RL.skip rfl ?_
    refine RL.skip rfl ?_
    refine RL.pick_f rfl rfl ?_
    refine RL.nil ?_
    refine X.cond_f rfl ?_
    refine X.skip ?_
    refine X.region rfl ?_
    refine RL.move rfl ?_
    refine RL.move rfl ?_
    refine RL.move rfl ?_
    refine RL.add rfl rfl rfl (by unfold leftP; omega) ?_
    refine RL.indexAddr rfl sl38 rfl rfl rfl rfl (by omega) ?_
    refine RL.stRow rfl rfl sc3.size rfl rfl (by omega) ?_
    refine RL.nil ?_
    refine X.blk ?_
    refine X.region rfl ?_
    refine RL.add rfl rfl rfl (by omega) ?_
    refine RL.move rfl ?_
    refine RL.nil ?_
    exact X.hyp ⟨rfl, k + 1, by omega, _, (by repeat (first | exact sb0 _ | exact sb1 _ | (rw [List.append_nil]; exact sb0 _) | exact sb2 _ _ | exact sb3 _ _ _ | apply sb4 | apply sb5 | apply sb6)), M2.set tn (leftP x (markN l (hts l s g) g g - 1) + 1), by omega, by rw [hn2]; exact hM2.step (by omega) hn1 (by unfold mk; split <;> omega), ⟨rfl, rfl, rfl, rfl, rfl, rfl, rfl, rfl, rfl, rfl, rfl, trivial⟩, rfl⟩
   replace h5 : ¬ ((_ : Int) < _) := h5
   obtain rfl : k = 1 := by omega
   rw [show ([(g : Int) + 1]).take 1 = [(g : Int) + 1] from rfl] at hM2
   refine RL.nil ?_
   refine X.seq ?_
   refine X.cond_f rfl ?_
   refine X.exit rfl ?_
   refine X.blk ?_
   refine X.region rfl ?_
   refine RL.add rfl rfl rfl (by omega) ?_
   refine RL.move rfl ?_
   refine RL.nil ?_
   refine X.hyp ⟨rfl, g + 1, by omega, (mb, cel 3 (ints M2)) :: (LJ3 ++ ((b10, cel 77 x.cells) :: Lo)), (by repeat (first | exact List.Sublist.refl _ | exact List.nil_sublist _ | exact List.sublist_append_left _ _ | exact (List.sublist_append_left _ _).trans (List.sublist_append_left _ _) | apply List.Sublist.cons | refine List.Sublist.trans ?_ (List.sublist_append_right _ _))), M2, LJ3, (b10, cel 77 x.cells) :: Lo, by omega, by rw [hn]; simp [hg], MarksK.next (x := x) (by rw [tgtsN h11 h77]; exact hM2) hx (next_get hg hst) (next_ext hg hst), by rw [hvn]; exact hJ3, ⟨rfl, rfl, rfl, rfl, rfl, rfl, rfl, trivial⟩, rfl⟩
  refine RL.not rfl rfl ?_
  refine RL.nil ?_
  refine X.cond_t rfl ?_
  refine X.seq ?_
  refine X.region rfl ?_
  refine RL.assign rfl ?_
  refine RL.assign rfl ?_
  refine RL.nil ?_
  refine X.ret ?_
  refine ret2 rfl ?_
  exact ⟨LJ3, (by repeat (first | exact List.Sublist.refl _ | exact List.nil_sublist _ | exact List.sublist_append_left _ _ | exact (List.sublist_append_left _ _).trans (List.sublist_append_left _ _) | apply List.Sublist.cons | refine List.Sublist.trans ?_ (List.sublist_append_right _ _))), .inr ⟨_, _, rest, hvis, hJ3, rfl⟩⟩
 replace h3 : ¬ ((_ : Int) < _) := h3
 obtain rfl : g = l.length := by omega
 refine RL.nil ?_
 refine X.seq ?_
 refine X.cond_f rfl ?_
 refine X.exit rfl ?_
 refine X.seq ?_
 refine X.region rfl ?_
 refine RL.assign rfl ?_
 refine RL.assign rfl ?_
 refine RL.nil ?_
 refine X.ret ?_
 refine ret2 rfl ?_
 exact ⟨LJ2, (by repeat (first | exact List.Sublist.refl _ | exact List.nil_sublist _ | exact List.sublist_append_left _ _ | exact (List.sublist_append_left _ _).trans (List.sublist_append_left _ _) | apply List.Sublist.cons | refine List.Sublist.trans ?_ (List.sublist_append_right _ _))), .inl ⟨by rw [visP_ok hl hg]; exact hJ, by rw [heightP_ok hl hg]⟩⟩
end Go.Proofs.Ytnebpklmbefmfaa

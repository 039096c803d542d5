/- The walk of CodeChecks. -/
import Derived.Test.YtaklegcphmfghaaA5
set_option linter.unusedVariables false
set_option linter.unusedSimpArgs false
namespace Go.Proofs.Ytaklegcphmfghaa
open Go.RowKit
attribute [local irreducible] X RL W Ctr
theorem w_checks (l : List Ins) (hmax : l.length ≤ 9223372036854775807) (A : Option Addr) (c : Nat) (hcap : l.length ≤ c) (w : World) (hrd : Rd w A (icells l)) (s : Int) :
    Ctr Try.prog 3 [.slice A l.length c, .int .i64 s] w [] fun v _ => v = .bool true := by
  have hrd1 := hrd
  obtain ⟨bb, oo, hA0, hc⟩ := hrd
  have hA : 0 < l.length → A = some ⟨bb, oo, none⟩ := fun h => hA0 (by rw [ecells_len Ins.len]; omega)
  refine Ctr.intro0 (n := 82) Try.func3 rfl Try.ntmps3 (Nat.le_of_ble_eq_true rfl) ?_
  refine X.seq ?_
  refine X.region rfl ?_
  refine RL.assign rfl ?_
  refine RL.nil ?_
  refine X.seq ?_
  refine X.seq ?_
  refine X.region rfl ?_
  refine RL.move rfl ?_
  rcases Nat.lt_or_ge 60 l.length with hg | hg
  · refine RL.fn0 rfl rfl rfl en9 (fun w hw => (f_great A l.length c w hmax).toT hg) rfl ?_
    rintro _ _ rfl
    refine RL.nil ?_
    refine X.cond_t rfl ?_
    refine X.seq ?_
    refine X.region rfl ?_
    refine RL.fn0 rfl rfl rfl en10 (fun w hw => (f_awake w)) rfl ?_
    rintro _ _ rfl
    refine RL.assign rfl ?_
    refine RL.nil ?_
    refine X.ret ?_
    refine ret1 rfl ?_
    show (_ : Value) = _
    rfl
  · have hlen : l.length ≤ 1000 := by omega
    rcases hp : heightP l s with ⟨H, at_, e⟩
    have hb0 : ∀ (k : Nat) h x, H[k]? = some h → l[k]? = some x → -1000 ≤ h ∧ h ≤ 1000 := heightP_range hp
    have hH : H.length ≤ l.length := heightP_short hp
    have hpe : (heightP l s).2.2 = e := by rw [hp]
    have hpa : (heightP l s).2.1 = at_ := by rw [hp]
    have hph : (heightP l s).1 = H := by rw [hp]
    refine RL.fn0 rfl rfl rfl en9 (fun w hw => (f_great A l.length c w hmax).toF (by omega)) rfl ?_
    rintro _ _ rfl
    refine RL.nil ?_
    refine X.cond_f rfl ?_
    refine X.skip ?_
    refine X.seq ?_
    refine X.region rfl ?_
    refine RL.bs0 rfl rfl sl22 ?_
    intro b1 hb1
    refine RL.move rfl ?_
    refine RL.drop (L' := [(b1, cel 32 [])]) rfl (List.Sublist.cons_cons _ (List.nil_sublist _)) ?_
    refine RL.append (xs := []) (Lz := []) (ys := icells l) rfl rfl sl22 el_ins (by decide) (by decide) Try.underlying22 (by rw [List.append_nil]; exact List.Perm.refl _) rfl (Row.blk b1 0 0 [] [] rfl rfl (Nat.le_refl _)) rfl (ecells_len Ins.len l) (ecells_one Ins.one l) (fun w2 hw2 => ?_) (fun m hm => by simp only [List.length_nil] at hm; omega) ?_
    · rcases Nat.eq_zero_or_pos l.length with h0 | h0
      · exact .inl (List.eq_nil_of_length_eq_zero (by rw [ecells_len Ins.len, h0]))
      · exact .inr ⟨bb, oo, hA h0, hw2.cellsI hc (by simp)⟩
    rw [List.nil_append]
    intro v2 Lr hrow
    rw [List.append_nil]
    obtain ⟨A2, m2, cp2, rfl, hm2, _, _⟩ := hrow.slice (by decide)
    obtain rfl : m2 = l.length := by rw [ecells_len Ins.len] at hm2; omega
    refine RL.assign rfl ?_
    refine RL.nil ?_
    refine X.seq ?_
    refine X.region rfl ?_
    refine RL.move rfl ?_
    refine RL.move rfl ?_
    refine RL.fn0 rfl rfl rfl en11 (fun w hw => (f_check l hlen A2 cp2 w (row_rd hrow hw (fun p hp => by simp [hp])) s)) rfl ?_
    rintro _ _ rfl
    refine RL.drop rfl (List.sublist_append_right _ _) ?_
    refine RL.move rfl ?_
    refine RL.extract rfl rfl rfl ?_
    refine RL.extract rfl rfl rfl ?_
    refine RL.extract rfl rfl rfl ?_
    refine RL.assign rfl ?_
    refine RL.assign rfl ?_
    refine RL.assign rfl ?_
    refine RL.nil ?_
    refine X.seq ?_
    refine X.region rfl ?_
    refine RL.move rfl ?_
    refine RL.move rfl ?_
    refine RL.fn0 rfl rfl rfl en12 (fun w hw => (f_height l hlen A c w (hrd1.st0 hw) s)) rfl ?_
    rintro _ _ ⟨v1, L1, rfl, hs1, A4, cp4, rfl, hrow4⟩
    refine RL.drop rfl (hs1.append (List.Sublist.refl _)) ?_
    refine RL.move rfl ?_
    refine RL.extract rfl rfl rfl ?_
    refine RL.extract rfl rfl rfl ?_
    refine RL.extract rfl rfl rfl ?_
    refine RL.assign rfl ?_
    refine RL.assign rfl ?_
    refine RL.assign rfl ?_
    refine RL.nil ?_
    refine X.seq ?_
    refine X.seq ?_
    refine X.region rfl ?_
    refine RL.assign rfl ?_
    refine RL.nil ?_
    refine X.block ?_
    refine X.loop (γ := Nat) (fun g ρ L => (g ≤ l.length) ∧ Has ρ [(0, .slice A l.length c), (1, .int .i64 s), (5, .slice A2 l.length cp2), (6, .int .i64 (checkP l s).1), (7, .int .i64 (checkP l s).2.1), (8, .int .i64 (checkP l s).2.2), (9, .slice A4 (heightP l s).1.length cp4), (10, .int .i64 (heightP l s).2.1), (11, .int .i64 (heightP l s).2.2), (12, .int .i64 g)] ∧ L = L1 ++ Lr) (fun g => l.length - g) (0) ⟨_, (by repeat (first | exact List.Sublist.refl _ | exact List.nil_sublist _ | (rw [List.append_nil]; exact List.Sublist.refl _) | exact List.sublist_append_left _ _ | exact (List.sublist_append_left _ _).trans (List.sublist_append_left _ _) | apply List.Sublist.cons_cons | apply List.Sublist.cons | refine List.Sublist.trans ?_ (List.sublist_append_right _ _))), Nat.zero_le _, ⟨rfl, rfl, rfl, rfl, rfl, rfl, rfl, rfl, rfl, rfl, trivial⟩, rfl⟩ ?_
    rintro g _ _ ⟨q1, hρ, rfl⟩
    obtain ⟨base, rfl⟩ := hρ.base
    clear hρ
    refine X.seq ?_
    refine X.seq ?_
    refine X.region rfl ?_
    refine RL.move rfl ?_
    refine RL.move rfl ?_
    refine RL.len rfl sl22 rfl ?_
    refine RL.cmp_s rfl rfl rfl rfl (fun h => ?_) (fun h => ?_)
    · replace h : (_ : Int) < _ := h
      obtain ⟨x, hx⟩ : ∃ x, l[g]? = some x := ⟨_, List.getElem?_eq_getElem (by omega)⟩
      obtain ⟨b2, junk, rfl, rfl⟩ := hrow.open (by omega)
      refine RL.nil ?_
      refine X.cond_t rfl ?_
      refine X.skip ?_
      refine X.seq ?_
      refine X.block ?_
      refine X.seq ?_
      refine X.draw (by kernel_rfl) (by kernel_rfl) ?_
      refine RL.move rfl ?_
      refine RL.move rfl ?_
      refine RL.indexAddr rfl sl22 rfl rfl rfl rfl (by omega) ?_
      refine RL.loadOA rfl ag32 rfl (own_elem Ins.len hx) (Ins.len _) ?_
      refine RL.move rfl ?_
      refine RL.move rfl ?_
      refine RL.indexAddr rfl sl22 rfl rfl (hA (by omega)) rfl (by omega) ?_
      refine RL.loadIA rfl ag32 rfl (elem_at Ins.len hc hx) (by simp) (Ins.len _) ?_
      refine RL.neA rfl eqg_ins rfl rfl (eq_ins x x) (fun hh => ?_) (fun hh => ?_)
      · skip
        exact absurd rfl hh
      · skip
        refine RL.nil ?_
        refine X.cond_f rfl ?_
        refine X.skip ?_
        refine X.blk ?_
        refine X.region rfl ?_
        refine RL.move rfl ?_
        refine RL.add rfl rfl rfl (by omega) ?_
        refine RL.assign rfl ?_
        refine RL.nil ?_
        refine X.hyp ⟨rfl, g + 1, by omega, _, (by repeat (first | exact List.Sublist.refl _ | exact List.nil_sublist _ | (rw [List.append_nil]; exact List.Sublist.refl _) | exact List.sublist_append_left _ _ | exact (List.sublist_append_left _ _).trans (List.sublist_append_left _ _) | apply List.Sublist.cons_cons | apply List.Sublist.cons | refine List.Sublist.trans ?_ (List.sublist_append_right _ _))), by omega, ⟨rfl, rfl, rfl, rfl, rfl, rfl, rfl, rfl, rfl, rfl, trivial⟩, rfl⟩
    · replace h : ¬ ((_ : Int) < _) := h
      refine RL.nil ?_
      refine X.cond_f rfl ?_
      refine X.exit rfl ?_
      refine X.seq ?_
      refine X.seq ?_
      refine X.region rfl ?_
      refine RL.move rfl ?_
      refine RL.cmp_s rfl rfl rfl rfl (fun h3 => ?_) (fun h3 => ?_)
      · replace h3 : (_ : Int) ≠ _ := h3
        have hce := checkP_err h3
        refine RL.nil ?_
        refine X.cond_t rfl ?_
        refine X.seq ?_
        refine X.region rfl ?_
        refine RL.move rfl ?_
        refine RL.move rfl ?_
        refine RL.cmp_t rfl rfl rfl rfl (by show ((_ : Int) = _); rw [hce]) ?_
        refine RL.move rfl ?_
        refine RL.move rfl ?_
        refine RL.move rfl ?_
        refine RL.cmp_t rfl rfl rfl rfl (by show ((_ : Int) = _); rw [hce]) ?_
        refine RL.pick_t rfl rfl ?_
        refine RL.move rfl ?_
        refine RL.move rfl ?_
        refine RL.cmp_t rfl rfl rfl rfl (by show ((_ : Int) = _); rw [hce]) ?_
        refine RL.pick_t rfl rfl ?_
        refine RL.move rfl ?_
        refine RL.fn0 rfl rfl rfl en10 (fun w hw => (f_awake w)) rfl ?_
        rintro _ _ rfl
        refine RL.pick_t rfl rfl ?_
        refine RL.assign rfl ?_
        refine RL.nil ?_
        refine X.ret ?_
        refine ret1 rfl ?_
        show (_ : Value) = _
        rfl
      · replace h3 : ¬ ((_ : Int) ≠ _) := h3
        have hce := checkP_ok h3
        refine RL.nil ?_
        refine X.cond_f rfl ?_
        refine X.skip ?_
        refine X.seq ?_
        refine X.region rfl ?_
        refine RL.move rfl ?_
        refine RL.cmp_t rfl rfl rfl rfl (by show ((_ : Int) = _); rw [hce]) ?_
        refine RL.move rfl ?_
        refine RL.move rfl ?_
        refine RL.cmp_t rfl rfl rfl rfl (by show ((_ : Int) = _); rw [hce]) ?_
        refine RL.pick_t rfl rfl ?_
        refine RL.move rfl ?_
        refine RL.move rfl ?_
        refine RL.move rfl ?_
        refine RL.move rfl ?_
        refine RL.move rfl ?_
        refine RL.fn0 rfl rfl rfl en13 (fun w hw => (f_most l hlen A c w (hrd1.st0 hw) (heightP l s).1 A4 cp4 s (by rw [hph]; exact hH) (by rw [hph]; exact hb0) (row_rd hrow4 hw (fun p hp => by simp [hp])))) rfl ?_
        rintro _ _ rfl
        refine RL.cmp_t rfl rfl rfl rfl (by show ((_ : Int) = _); rw [hce]) ?_
        refine RL.pick_t rfl rfl ?_
        refine RL.move rfl ?_
        refine RL.fn0 rfl rfl rfl en10 (fun w hw => (f_awake w)) rfl ?_
        rintro _ _ rfl
        refine RL.pick_t rfl rfl ?_
        refine RL.assign rfl ?_
        refine RL.nil ?_
        refine X.ret ?_
        refine ret1 rfl ?_
        show (_ : Value) = _
        rfl
end Go.Proofs.Ytaklegcphmfghaa

/- The walk of CodeRuns. -/
import Derived.Test.YtaklegcphmfghaaA5
import Derived.Test.YtaklegcphmfghaaCodeL
set_option linter.unusedVariables false
set_option linter.unusedSimpArgs false
namespace Go.Proofs.Ytaklegcphmfghaa
open Go.RowKit
attribute [local irreducible] X RL W Ctr
theorem w_runs (l : List Ins) (hmax : l.length ≤ 9223372036854775807) (A : Option Addr) (c : Nat) (hcap : l.length ≤ c) (w : World) (hrd : Rd w A (icells l)) (s bits : Int) :
    Ctr Try.prog 4 [.slice A l.length c, .int .i64 s, .int .u64 bits] w [] fun v _ => v = .bool true := by
  have hrd1 := hrd
  obtain ⟨bb, oo, hA0, hc⟩ := hrd
  have hA : 0 < l.length → A = some ⟨bb, oo, none⟩ := fun h => hA0 (by rw [ecells_len Ins.len]; omega)
  refine Ctr.intro0 (n := 81) Try.func4 rfl Try.ntmps4 (Nat.le_of_ble_eq_true rfl) ?_
  refine X.seq ?_
  refine X.region rfl ?_
  refine RL.assign rfl ?_
  refine RL.nil ?_
  refine X.seq ?_
  refine X.seq ?_
  refine X.region rfl ?_
  refine RL.move rfl ?_
  rcases Nat.lt_or_ge 60 l.length with hg | hg
  · refine RL.fn0 rfl rfl rfl en9 (fun w hw => (f_great A l.length c w hmax).toT hg) rfl ?_
    rintro _ _ rfl
    refine RL.nil ?_
    refine X.cond_t rfl ?_
    refine X.seq ?_
    refine X.region rfl ?_
    refine RL.fn0 rfl rfl rfl en10 (fun w hw => (f_awake w)) rfl ?_
    rintro _ _ rfl
    refine RL.assign rfl ?_
    refine RL.nil ?_
    refine X.ret ?_
    refine ret1 rfl ?_
    show (_ : Value) = _
    rfl
  · have hlen : l.length ≤ 1000 := by omega
    refine RL.fn0 rfl rfl rfl en9 (fun w hw => (f_great A l.length c w hmax).toF (by omega)) rfl ?_
    rintro _ _ rfl
    refine RL.nil ?_
    refine X.cond_f rfl ?_
    refine X.skip ?_
    refine X.seq ?_
    refine X.region rfl ?_
    refine RL.move rfl ?_
    refine RL.move rfl ?_
    refine RL.fn0 rfl rfl rfl en11 (fun w hw => (f_check l hlen A c w (hrd1.st0 hw) s)) rfl ?_
    rintro _ _ rfl
    refine RL.move rfl ?_
    refine RL.extract rfl rfl rfl ?_
    refine RL.extract rfl rfl rfl ?_
    refine RL.extract rfl rfl rfl ?_
    refine RL.assign rfl ?_
    refine RL.assign rfl ?_
    refine RL.assign rfl ?_
    refine RL.nil ?_
    refine X.seq ?_
    refine X.seq ?_
    refine X.region rfl ?_
    refine RL.move rfl ?_
    refine RL.cmp_s rfl rfl rfl rfl (fun h => ?_) (fun h => ?_)
    · replace h : (_ : Int) ≠ _ := h
      refine RL.nil ?_
      refine X.cond_t rfl ?_
      refine X.seq ?_
      refine X.region rfl ?_
      refine RL.fn0 rfl rfl rfl en10 (fun w hw => (f_awake w)) rfl ?_
      rintro _ _ rfl
      refine RL.assign rfl ?_
      refine RL.nil ?_
      refine X.ret ?_
      refine ret1 rfl ?_
      show (_ : Value) = _
      rfl
    · replace h : ¬ ((_ : Int) ≠ _) := h
      have hv : Valid l s := check_valid.1 (Decidable.not_not.1 h)
      have hvl := hv.len
      obtain ⟨hm8, hml⟩ := hv.most
      refine RL.nil ?_
      refine X.cond_f rfl ?_
      refine X.skip ?_
      refine X.seq ?_
      refine X.region rfl ?_
      refine RL.assign rfl ?_
      refine RL.nil ?_
      refine X.seq ?_
      refine X.seq ?_
      refine X.region rfl ?_
      refine RL.assign rfl ?_
      refine RL.nil ?_
      refine X.block ?_
      refine X.loop (γ := Nat) (fun g ρ L => ∃ r : Int, ∃ n : Int, (g < l.length) ∧ ((hts l s l.length)[g]? = some n) ∧ Has ρ [(0, .slice A l.length c), (2, .int .u64 r), (7, .int .i64 (checkP l s).1), (10, .int .i64 n), (11, .int .i64 g)] ∧ L = []) (fun g => l.length - g) (0) ⟨_, (by repeat (first | exact List.Sublist.refl _ | exact List.nil_sublist _ | (rw [List.append_nil]; exact List.Sublist.refl _) | exact List.sublist_append_left _ _ | exact (List.sublist_append_left _ _).trans (List.sublist_append_left _ _) | apply List.Sublist.cons_cons | apply List.Sublist.cons | refine List.Sublist.trans ?_ (List.sublist_append_right _ _))), bits, 0, by omega, hv.start, ⟨rfl, rfl, rfl, rfl, rfl, trivial⟩, rfl⟩ ?_
      rintro g _ _ ⟨r, n, hgl, hgn, hρ, rfl⟩
      obtain ⟨base, rfl⟩ := hρ.base
      clear hρ
      obtain ⟨x, hn2, hx, hgn2, _, ho, htk, hn0, h11, hl8, hlast, hskip⟩ := hv.at hgl
      rw [hgn] at hgn2
      obtain rfl := Option.some.inj hgn2
      obtain ⟨hc1, hc2, hc3⟩ := left_cases x n
      have hop := ok_op ho
      have hlr := left_range hgn hx
      have hlm := hml g x n hx hgn
      have hi7 : x.op = 7 → 1 ≤ x.a := ok7 ho
      refine X.seq ?_
      refine X.seq ?_
      refine X.region rfl ?_
      refine RL.move rfl ?_
      refine RL.move rfl ?_
      refine RL.len rfl sl22 rfl ?_
      refine RL.cmp_t rfl rfl rfl rfl (by show ((_ : Int) < _); omega) ?_
      refine RL.nil ?_
      refine X.cond_t rfl ?_
      refine X.skip ?_
      refine X.seq ?_
      refine X.block ?_
      refine X.seq ?_
      refine X.seq ?_
      refine X.region rfl ?_
      refine RL.move rfl ?_
      refine RL.move rfl ?_
      refine RL.indexAddr rfl sl22 rfl rfl (hA (by omega)) rfl (by omega) ?_
      refine RL.fieldAddr rfl fd32_0 rfl ?_
      refine RL.loadI rfl sc3 rfl (CellsAt.at (elem_at Ins.len hc hx) rfl) (by simp) ?_
      refine RL.nil ?_
      refine X.block ?_
      refine X.seq ?_
      refine X.seq ?_
      refine X.region rfl ?_
      refine RL.cmp_s rfl rfl rfl rfl (fun c1 => ?_) (fun c1 => ?_)
      · replace c1 : (_ : Int) = _ := c1
        refine RL.assign rfl ?_
        refine RL.nil ?_
        refine X.cond_t rfl ?_
        refine X.skip ?_
        refine X.cond_t rfl ?_
        refine X.region rfl ?_
        refine RL.move rfl ?_
        refine RL.add rfl rfl rfl (by omega) ?_
        refine RL.assign rfl ?_
        refine RL.nil ?_
        refine X.blk ?_
        refine X.seq ?_
        refine X.region rfl ?_
        refine RL.move rfl ?_
        refine RL.cmp_f rfl rfl rfl rfl (by show ¬ ((_ : Int) < _); omega) ?_
        refine RL.move rfl ?_
        refine RL.move rfl ?_
        refine RL.move rfl ?_
        refine RL.cmp_f rfl rfl rfl rfl (by show ¬ ((_ : Int) > _); omega) ?_
        refine RL.pick_f rfl rfl ?_
        refine RL.move rfl ?_
        refine RL.move rfl ?_
        refine RL.cmp_f rfl rfl rfl rfl (by show ¬ ((_ : Int) > _); omega) ?_
        refine RL.pick_f rfl rfl ?_
        refine RL.nil ?_
        refine X.cond_f rfl ?_
        refine X.skip ?_
        refine X.blk ?_
        refine X.region rfl ?_
        refine RL.move rfl ?_
        refine RL.add rfl rfl rfl (by omega) ?_
        refine RL.assign rfl ?_
        refine RL.nil ?_
        have hl1 := hlast (by omega)
        exact X.hyp ⟨rfl, g + 1, by omega, _, (by repeat (first | exact List.Sublist.refl _ | exact List.nil_sublist _ | (rw [List.append_nil]; exact List.Sublist.refl _) | exact List.sublist_append_left _ _ | exact (List.sublist_append_left _ _).trans (List.sublist_append_left _ _) | apply List.Sublist.cons_cons | apply List.Sublist.cons | refine List.Sublist.trans ?_ (List.sublist_append_right _ _))), _, leftP x n, by omega, hv.goes hx hgn (goes_next (by omega)) (by omega) (by omega), ⟨rfl, rfl, rfl, congrArg (Value.int .i64) (by omega), congrArg (Value.int .i64) (by omega), trivial⟩, rfl⟩
      · replace c1 : ¬ ((_ : Int) = _) := c1
        refine RL.assign rfl ?_
        refine RL.nil ?_
        refine X.cond_f rfl ?_
        refine X.seq ?_
        refine X.region rfl ?_
        refine RL.cmp_s rfl rfl rfl rfl (fun c2 => ?_) (fun c2 => ?_)
        · replace c2 : (_ : Int) = _ := c2
          refine RL.assign rfl ?_
          refine RL.nil ?_
          refine X.cond_t rfl ?_
          refine X.skip ?_
          refine X.cond_t rfl ?_
          refine X.region rfl ?_
          refine RL.move rfl ?_
          refine RL.add rfl rfl rfl (by omega) ?_
          refine RL.assign rfl ?_
          refine RL.nil ?_
          refine X.blk ?_
          refine X.seq ?_
          refine X.region rfl ?_
          refine RL.move rfl ?_
          refine RL.cmp_f rfl rfl rfl rfl (by show ¬ ((_ : Int) < _); omega) ?_
          refine RL.move rfl ?_
          refine RL.move rfl ?_
          refine RL.move rfl ?_
          refine RL.cmp_f rfl rfl rfl rfl (by show ¬ ((_ : Int) > _); omega) ?_
          refine RL.pick_f rfl rfl ?_
          refine RL.move rfl ?_
          refine RL.move rfl ?_
          refine RL.cmp_f rfl rfl rfl rfl (by show ¬ ((_ : Int) > _); omega) ?_
          refine RL.pick_f rfl rfl ?_
          refine RL.nil ?_
          refine X.cond_f rfl ?_
          refine X.skip ?_
          refine X.blk ?_
          refine X.region rfl ?_
          refine RL.move rfl ?_
          refine RL.add rfl rfl rfl (by omega) ?_
          refine RL.assign rfl ?_
          refine RL.nil ?_
          have hl1 := hlast (by omega)
          exact X.hyp ⟨rfl, g + 1, by omega, _, (by repeat (first | exact List.Sublist.refl _ | exact List.nil_sublist _ | (rw [List.append_nil]; exact List.Sublist.refl _) | exact List.sublist_append_left _ _ | exact (List.sublist_append_left _ _).trans (List.sublist_append_left _ _) | apply List.Sublist.cons_cons | apply List.Sublist.cons | refine List.Sublist.trans ?_ (List.sublist_append_right _ _))), _, leftP x n, by omega, hv.goes hx hgn (goes_next (by omega)) (by omega) (by omega), ⟨rfl, rfl, rfl, congrArg (Value.int .i64) (by omega), congrArg (Value.int .i64) (by omega), trivial⟩, rfl⟩
        · replace c2 : ¬ ((_ : Int) = _) := c2
          refine RL.assign rfl ?_
          refine RL.nil ?_
          refine X.cond_f rfl ?_
          refine X.region rfl ?_
          refine RL.cmp_s rfl rfl rfl rfl (fun c3 => ?_) (fun c3 => ?_)
          · replace c3 : (_ : Int) = _ := c3
            refine RL.assign rfl ?_
            refine RL.nil ?_
            refine X.cond_t rfl ?_
            refine X.region rfl ?_
            refine RL.move rfl ?_
            refine RL.add rfl rfl rfl (by omega) ?_
            refine RL.assign rfl ?_
            refine RL.nil ?_
            refine X.blk ?_
            refine X.seq ?_
            refine X.region rfl ?_
            refine RL.move rfl ?_
            refine RL.cmp_f rfl rfl rfl rfl (by show ¬ ((_ : Int) < _); omega) ?_
            refine RL.move rfl ?_
            refine RL.move rfl ?_
            refine RL.move rfl ?_
            refine RL.cmp_f rfl rfl rfl rfl (by show ¬ ((_ : Int) > _); omega) ?_
            refine RL.pick_f rfl rfl ?_
            refine RL.move rfl ?_
            refine RL.move rfl ?_
            refine RL.cmp_f rfl rfl rfl rfl (by show ¬ ((_ : Int) > _); omega) ?_
            refine RL.pick_f rfl rfl ?_
            refine RL.nil ?_
            refine X.cond_f rfl ?_
            refine X.skip ?_
            refine X.blk ?_
            refine X.region rfl ?_
            refine RL.move rfl ?_
            refine RL.add rfl rfl rfl (by omega) ?_
            refine RL.assign rfl ?_
            refine RL.nil ?_
            have hl1 := hlast (by omega)
            exact X.hyp ⟨rfl, g + 1, by omega, _, (by repeat (first | exact List.Sublist.refl _ | exact List.nil_sublist _ | (rw [List.append_nil]; exact List.Sublist.refl _) | exact List.sublist_append_left _ _ | exact (List.sublist_append_left _ _).trans (List.sublist_append_left _ _) | apply List.Sublist.cons_cons | apply List.Sublist.cons | refine List.Sublist.trans ?_ (List.sublist_append_right _ _))), _, leftP x n, by omega, hv.goes hx hgn (goes_next (by omega)) (by omega) (by omega), ⟨rfl, rfl, rfl, congrArg (Value.int .i64) (by omega), congrArg (Value.int .i64) (by omega), trivial⟩, rfl⟩
          · replace c3 : ¬ ((_ : Int) = _) := c3
            refine RL.assign rfl ?_
            refine RL.nil ?_
            refine X.cond_f rfl ?_
            refine X.seq ?_
            refine X.seq ?_
            refine X.region rfl ?_
            refine RL.cmp_s rfl rfl rfl rfl (fun c4 => ?_) (fun c4 => ?_)
            · replace c4 : (_ : Int) = _ := c4
              refine RL.assign rfl ?_
              refine RL.nil ?_
              refine X.cond_t rfl ?_
              refine X.skip ?_
              refine X.cond_t rfl ?_
              refine X.region rfl ?_
              refine RL.move rfl ?_
              refine RL.sub rfl rfl rfl (by omega) ?_
              refine RL.assign rfl ?_
              refine RL.nil ?_
              refine X.blk ?_
              refine X.seq ?_
              refine X.region rfl ?_
              refine RL.move rfl ?_
              refine RL.cmp_f rfl rfl rfl rfl (by show ¬ ((_ : Int) < _); omega) ?_
              refine RL.move rfl ?_
              refine RL.move rfl ?_
              refine RL.move rfl ?_
              refine RL.cmp_f rfl rfl rfl rfl (by show ¬ ((_ : Int) > _); omega) ?_
              refine RL.pick_f rfl rfl ?_
              refine RL.move rfl ?_
              refine RL.move rfl ?_
              refine RL.cmp_f rfl rfl rfl rfl (by show ¬ ((_ : Int) > _); omega) ?_
              refine RL.pick_f rfl rfl ?_
              refine RL.nil ?_
              refine X.cond_f rfl ?_
              refine X.skip ?_
              refine X.blk ?_
              refine X.region rfl ?_
              refine RL.move rfl ?_
              refine RL.add rfl rfl rfl (by omega) ?_
              refine RL.assign rfl ?_
              refine RL.nil ?_
              have hl1 := hlast (by omega)
              exact X.hyp ⟨rfl, g + 1, by omega, _, (by repeat (first | exact List.Sublist.refl _ | exact List.nil_sublist _ | (rw [List.append_nil]; exact List.Sublist.refl _) | exact List.sublist_append_left _ _ | exact (List.sublist_append_left _ _).trans (List.sublist_append_left _ _) | apply List.Sublist.cons_cons | apply List.Sublist.cons | refine List.Sublist.trans ?_ (List.sublist_append_right _ _))), _, leftP x n, by omega, hv.goes hx hgn (goes_next (by omega)) (by omega) (by omega), ⟨rfl, rfl, rfl, congrArg (Value.int .i64) (by omega), congrArg (Value.int .i64) (by omega), trivial⟩, rfl⟩
            · replace c4 : ¬ ((_ : Int) = _) := c4
              refine RL.assign rfl ?_
              refine RL.nil ?_
              refine X.cond_f rfl ?_
              refine X.region rfl ?_
              refine RL.cmp_s rfl rfl rfl rfl (fun c5 => ?_) (fun c5 => ?_)
              · replace c5 : (_ : Int) = _ := c5
                refine RL.assign rfl ?_
                refine RL.nil ?_
                refine X.cond_t rfl ?_
                refine X.region rfl ?_
                refine RL.move rfl ?_
                refine RL.sub rfl rfl rfl (by omega) ?_
                refine RL.assign rfl ?_
                refine RL.nil ?_
                refine X.blk ?_
                refine X.seq ?_
                refine X.region rfl ?_
                refine RL.move rfl ?_
                refine RL.cmp_f rfl rfl rfl rfl (by show ¬ ((_ : Int) < _); omega) ?_
                refine RL.move rfl ?_
                refine RL.move rfl ?_
                refine RL.move rfl ?_
                refine RL.cmp_f rfl rfl rfl rfl (by show ¬ ((_ : Int) > _); omega) ?_
                refine RL.pick_f rfl rfl ?_
                refine RL.move rfl ?_
                refine RL.move rfl ?_
                refine RL.cmp_f rfl rfl rfl rfl (by show ¬ ((_ : Int) > _); omega) ?_
                refine RL.pick_f rfl rfl ?_
                refine RL.nil ?_
                refine X.cond_f rfl ?_
                refine X.skip ?_
                refine X.blk ?_
                refine X.region rfl ?_
                refine RL.move rfl ?_
                refine RL.add rfl rfl rfl (by omega) ?_
                refine RL.assign rfl ?_
                refine RL.nil ?_
                have hl1 := hlast (by omega)
                exact X.hyp ⟨rfl, g + 1, by omega, _, (by repeat (first | exact List.Sublist.refl _ | exact List.nil_sublist _ | (rw [List.append_nil]; exact List.Sublist.refl _) | exact List.sublist_append_left _ _ | exact (List.sublist_append_left _ _).trans (List.sublist_append_left _ _) | apply List.Sublist.cons_cons | apply List.Sublist.cons | refine List.Sublist.trans ?_ (List.sublist_append_right _ _))), _, leftP x n, by omega, hv.goes hx hgn (goes_next (by omega)) (by omega) (by omega), ⟨rfl, rfl, rfl, congrArg (Value.int .i64) (by omega), congrArg (Value.int .i64) (by omega), trivial⟩, rfl⟩
              · replace c5 : ¬ ((_ : Int) = _) := c5
                refine RL.assign rfl ?_
                refine RL.nil ?_
                refine X.cond_f rfl ?_
                refine X.seq ?_
                refine X.region rfl ?_
                refine RL.cmp_s rfl rfl rfl rfl (fun c6 => ?_) (fun c6 => ?_)
                · replace c6 : (_ : Int) = _ := c6
                  refine RL.assign rfl ?_
                  refine RL.nil ?_
                  refine X.cond_t rfl ?_
                  refine X.seq ?_
                  refine X.region rfl ?_
                  refine RL.move rfl ?_
                  refine RL.sub rfl rfl rfl (by omega) ?_
                  refine RL.assign rfl ?_
                  refine RL.nil ?_
                  refine X.seq ?_
                  refine X.seq ?_
                  refine X.region rfl ?_
                  refine RL.move rfl ?_
                  refine RL.andE rfl rfl rfl ?_
                  intro r1
                  refine RL.cmp_s rfl rfl rfl rfl (fun c7 => ?_) (fun c7 => ?_)
                  · replace c7 : (_ : Int) = _ := c7
                    refine RL.nil ?_
                    refine X.cond_t rfl ?_
                    refine X.region rfl ?_
                    refine RL.move rfl ?_
                    refine RL.move rfl ?_
                    refine RL.move rfl ?_
                    refine RL.indexAddr rfl sl22 rfl rfl (hA (by omega)) rfl (by omega) ?_
                    refine RL.fieldAddr rfl fd32_1 rfl ?_
                    refine RL.loadI rfl sc3 rfl (CellsAt.at (elem_at Ins.len hc hx) rfl) (by simp) ?_
                    refine RL.add rfl rfl rfl (by omega) ?_
                    refine RL.assign rfl ?_
                    refine RL.nil ?_
                    refine X.region rfl ?_
                    refine RL.move rfl ?_
                    refine RL.shrE rfl rfl rfl (by decide) ?_
                    intro r2
                    refine RL.assign rfl ?_
                    refine RL.nil ?_
                    refine X.blk ?_
                    refine X.seq ?_
                    refine X.region rfl ?_
                    refine RL.move rfl ?_
                    refine RL.cmp_f rfl rfl rfl rfl (by show ¬ ((_ : Int) < _); omega) ?_
                    refine RL.move rfl ?_
                    refine RL.move rfl ?_
                    refine RL.move rfl ?_
                    refine RL.cmp_f rfl rfl rfl rfl (by show ¬ ((_ : Int) > _); omega) ?_
                    refine RL.pick_f rfl rfl ?_
                    refine RL.move rfl ?_
                    refine RL.move rfl ?_
                    refine RL.cmp_f rfl rfl rfl rfl (by show ¬ ((_ : Int) > _); omega) ?_
                    refine RL.pick_f rfl rfl ?_
                    refine RL.nil ?_
                    refine X.cond_f rfl ?_
                    refine X.skip ?_
                    refine X.blk ?_
                    refine X.region rfl ?_
                    refine RL.move rfl ?_
                    refine RL.add rfl rfl rfl (by omega) ?_
                    refine RL.assign rfl ?_
                    refine RL.nil ?_
                    have ha7 := ok7 ho (by omega)
                    have hs7 := hskip (by omega)
                    have hl1 := hlast (by omega)
                    exact X.hyp ⟨rfl, g + x.a.toNat + 1, by omega, _, (by repeat (first | exact List.Sublist.refl _ | exact List.nil_sublist _ | (rw [List.append_nil]; exact List.Sublist.refl _) | exact List.sublist_append_left _ _ | exact (List.sublist_append_left _ _).trans (List.sublist_append_left _ _) | apply List.Sublist.cons_cons | apply List.Sublist.cons | refine List.Sublist.trans ?_ (List.sublist_append_right _ _))), _, leftP x n, by omega, hv.goes hx hgn (goes_skip (by omega) (ok7 ho (by omega))) (by omega) (by omega), ⟨rfl, rfl, rfl, congrArg (Value.int .i64) (by omega), congrArg (Value.int .i64) (by omega), trivial⟩, rfl⟩
                  · replace c7 : ¬ ((_ : Int) = _) := c7
                    refine RL.nil ?_
                    refine X.cond_f rfl ?_
                    refine X.skip ?_
                    refine X.region rfl ?_
                    refine RL.move rfl ?_
                    refine RL.shrE rfl rfl rfl (by decide) ?_
                    intro r2
                    refine RL.assign rfl ?_
                    refine RL.nil ?_
                    refine X.blk ?_
                    refine X.seq ?_
                    refine X.region rfl ?_
                    refine RL.move rfl ?_
                    refine RL.cmp_f rfl rfl rfl rfl (by show ¬ ((_ : Int) < _); omega) ?_
                    refine RL.move rfl ?_
                    refine RL.move rfl ?_
                    refine RL.move rfl ?_
                    refine RL.cmp_f rfl rfl rfl rfl (by show ¬ ((_ : Int) > _); omega) ?_
                    refine RL.pick_f rfl rfl ?_
                    refine RL.move rfl ?_
                    refine RL.move rfl ?_
                    refine RL.cmp_f rfl rfl rfl rfl (by show ¬ ((_ : Int) > _); omega) ?_
                    refine RL.pick_f rfl rfl ?_
                    refine RL.nil ?_
                    refine X.cond_f rfl ?_
                    refine X.skip ?_
                    refine X.blk ?_
                    refine X.region rfl ?_
                    refine RL.move rfl ?_
                    refine RL.add rfl rfl rfl (by omega) ?_
                    refine RL.assign rfl ?_
                    refine RL.nil ?_
                    have ha7 := ok7 ho (by omega)
                    have hs7 := hskip (by omega)
                    have hl1 := hlast (by omega)
                    exact X.hyp ⟨rfl, g + 1, by omega, _, (by repeat (first | exact List.Sublist.refl _ | exact List.nil_sublist _ | (rw [List.append_nil]; exact List.Sublist.refl _) | exact List.sublist_append_left _ _ | exact (List.sublist_append_left _ _).trans (List.sublist_append_left _ _) | apply List.Sublist.cons_cons | apply List.Sublist.cons | refine List.Sublist.trans ?_ (List.sublist_append_right _ _))), _, leftP x n, by omega, hv.goes hx hgn (goes_next (by omega)) (by omega) (by omega), ⟨rfl, rfl, rfl, congrArg (Value.int .i64) (by omega), congrArg (Value.int .i64) (by omega), trivial⟩, rfl⟩
                · replace c6 : ¬ ((_ : Int) = _) := c6
                  refine RL.assign rfl ?_
                  refine RL.nil ?_
                  refine X.cond_f rfl ?_
                  refine X.seq ?_
                  refine X.region rfl ?_
                  refine RL.cmp_s rfl rfl rfl rfl (fun c8 => ?_) (fun c8 => ?_)
                  · replace c8 : (_ : Int) = _ := c8
                    refine RL.assign rfl ?_
                    refine RL.nil ?_
                    refine X.cond_t rfl ?_
                    refine X.seq ?_
                    refine X.region rfl ?_
                    refine RL.move rfl ?_
                    refine RL.cmp_t rfl rfl rfl rfl (by show ((_ : Int) = _); omega) ?_
                    refine RL.move rfl ?_
                    refine RL.fn0 rfl rfl rfl en10 (fun w hw => (f_awake w)) rfl ?_
                    rintro _ _ rfl
                    refine RL.pick_t rfl rfl ?_
                    refine RL.assign rfl ?_
                    refine RL.nil ?_
                    refine X.ret ?_
                    refine ret1 rfl ?_
                    show (_ : Value) = _
                    rfl
                  · replace c8 : ¬ ((_ : Int) = _) := c8
                    refine RL.assign rfl ?_
                    refine RL.nil ?_
                    refine X.cond_f rfl ?_
                    refine X.skip ?_
                    refine X.blk ?_
                    refine X.seq ?_
                    refine X.region rfl ?_
                    refine RL.move rfl ?_
                    refine RL.cmp_f rfl rfl rfl rfl (by show ¬ ((_ : Int) < _); omega) ?_
                    refine RL.move rfl ?_
                    refine RL.move rfl ?_
                    refine RL.move rfl ?_
                    refine RL.cmp_f rfl rfl rfl rfl (by show ¬ ((_ : Int) > _); omega) ?_
                    refine RL.pick_f rfl rfl ?_
                    refine RL.move rfl ?_
                    refine RL.move rfl ?_
                    refine RL.cmp_f rfl rfl rfl rfl (by show ¬ ((_ : Int) > _); omega) ?_
                    refine RL.pick_f rfl rfl ?_
                    refine RL.nil ?_
                    refine X.cond_f rfl ?_
                    refine X.skip ?_
                    refine X.blk ?_
                    refine X.region rfl ?_
                    refine RL.move rfl ?_
                    refine RL.add rfl rfl rfl (by omega) ?_
                    refine RL.assign rfl ?_
                    refine RL.nil ?_
                    have hl1 := hlast (by omega)
                    exact X.hyp ⟨rfl, g + 1, by omega, _, (by repeat (first | exact List.Sublist.refl _ | exact List.nil_sublist _ | (rw [List.append_nil]; exact List.Sublist.refl _) | exact List.sublist_append_left _ _ | exact (List.sublist_append_left _ _).trans (List.sublist_append_left _ _) | apply List.Sublist.cons_cons | apply List.Sublist.cons | refine List.Sublist.trans ?_ (List.sublist_append_right _ _))), _, leftP x n, by omega, hv.goes hx hgn (goes_next (by omega)) (by omega) (by omega), ⟨rfl, rfl, rfl, congrArg (Value.int .i64) (by omega), congrArg (Value.int .i64) (by omega), trivial⟩, rfl⟩
end Go.Proofs.Ytaklegcphmfghaa

/- The small functions: what each call comes to. -/
import Derived.Test.YtaklegcphmfghaaCode
set_option linter.unusedVariables false
set_option linter.unusedSimpArgs false
namespace Go.Proofs.Ytaklegcphmfghaa
open Go.RowKit
attribute [local irreducible] X RL W Ctr
theorem f_great (A : Option Addr) (n c : Nat) (w : World) (hn : n ≤ 9223372036854775807) : Ctr Try.prog 9 [.slice A n c] w [] fun v _ => v = .bool (decide (60 < n)) := by
  refine Ctr.intro0 (n := 6) Try.func9 rfl Try.ntmps9 (Nat.le_of_ble_eq_true rfl) ?_
  refine X.seq ?_
  refine X.region rfl ?_
  refine RL.assign rfl ?_
  refine RL.nil ?_
  refine X.seq ?_
  refine X.region rfl ?_
  refine RL.move rfl ?_
  refine RL.len rfl sl22 rfl ?_
  refine RL.cmp_d rfl rfl rfl rfl ?_
  refine RL.assign rfl ?_
  refine RL.nil ?_
  refine X.ret ?_
  refine ret1 rfl ?_
  show (_ : Value) = _
  congr 1
  exact decide_eq_decide.2 (by show ((n : Int) > 60) ↔ _; omega)
theorem f_pick (x n : Int) (w : World) (hn : n ≤ 1000) (hn0 : -1000 ≤ n) : Ctr Try.prog 15 [.int .i64 x, .int .i64 n] w [] fun v _ => v = .int .i64 (if n < 1 then 0 else x % n) := by
  refine Ctr.intro0 (n := 17) Try.func15 rfl Try.ntmps15 (Nat.le_of_ble_eq_true rfl) ?_
  refine X.seq ?_
  refine X.region rfl ?_
  refine RL.assign rfl ?_
  refine RL.nil ?_
  refine X.seq ?_
  refine X.seq ?_
  refine X.region rfl ?_
  refine RL.move rfl ?_
  refine RL.cmp_s rfl rfl rfl rfl (fun h => ?_) (fun h => ?_)
  · replace h : (_ : Int) < _ := h
    refine RL.nil ?_
    refine X.cond_t rfl ?_
    refine X.seq ?_
    refine X.region rfl ?_
    refine RL.assign rfl ?_
    refine RL.nil ?_
    refine X.ret ?_
    refine ret1 rfl ?_
    show (_ : Value) = _
    rw [if_pos h]
  · replace h : ¬ ((_ : Int) < _) := h
    have e1 := Int.emod_nonneg x (show n ≠ 0 by omega)
    have e2 := Int.emod_lt_of_pos x (show 0 < n by omega)
    have e3 : x.tmod n = if x % n = 0 ∨ 0 ≤ x then x % n else x % n - n := by
      rw [Int.tmod_eq_emod]
      have e4 : (n ∣ x) ↔ x % n = 0 := Int.dvd_iff_emod_eq_zero
      have e5 : (n.natAbs : Int) = n := by omega
      by_cases g1 : 0 ≤ x <;> by_cases g2 : x % n = 0 <;> simp [g1, g2, e4, e5]
    refine RL.nil ?_
    refine X.cond_f rfl ?_
    refine X.skip ?_
    refine X.seq ?_
    refine X.region rfl ?_
    refine RL.move rfl ?_
    refine RL.move rfl ?_
    refine RL.rem rfl rfl rfl (by omega) ?_
    refine RL.assign rfl ?_
    refine RL.nil ?_
    refine X.seq ?_
    refine X.seq ?_
    refine X.region rfl ?_
    refine RL.move rfl ?_
    refine RL.cmp_s rfl rfl rfl rfl (fun g => ?_) (fun g => ?_)
    · replace g : (_ : Int) < _ := g
      refine RL.nil ?_
      refine X.cond_t rfl ?_
      refine X.region rfl ?_
      refine RL.move rfl ?_
      refine RL.move rfl ?_
      refine RL.add rfl rfl rfl (by rw [e3] at g ⊢; split <;> omega) ?_
      refine RL.assign rfl ?_
      refine RL.nil ?_
      refine X.seq ?_
      refine X.region rfl ?_
      refine RL.move rfl ?_
      refine RL.assign rfl ?_
      refine RL.nil ?_
      refine X.ret ?_
      refine ret1 rfl ?_
      show (_ : Value) = _
      rw [if_neg (by omega)]
      congr 1
      rw [e3] at g ⊢
      split at g <;> simp_all <;> omega
    · replace g : ¬ ((_ : Int) < _) := g
      refine RL.nil ?_
      refine X.cond_f rfl ?_
      refine X.skip ?_
      refine X.seq ?_
      refine X.region rfl ?_
      refine RL.move rfl ?_
      refine RL.assign rfl ?_
      refine RL.nil ?_
      refine X.ret ?_
      refine ret1 rfl ?_
      show (_ : Value) = _
      rw [if_neg (by omega)]
      congr 1
      rw [e3] at g ⊢
      split at g <;> simp_all <;> omega
theorem f_same (xs ys : List Int) (A B : Option Addr) (c d : Nat) (w : World) (hx : xs.length ≤ 1000000) (hy : ys.length ≤ 1000000) (ha : Rd w A (ints xs)) (hb : Rd w B (ints ys)) :
    Ctr Try.prog 16 [.slice A xs.length c, .slice B ys.length d] w [] fun v _ => v = .bool (decide (xs = ys)) := by
  obtain ⟨ba, oa, ha1, ha2⟩ := ha
  obtain ⟨bb, ob, hb1, hb2⟩ := hb
  rw [ints_length] at ha1 hb1
  refine Ctr.intro0 (n := 26) Try.func16 rfl Try.ntmps16 (Nat.le_of_ble_eq_true rfl) ?_
  refine X.seq ?_
  refine X.region rfl ?_
  refine RL.assign rfl ?_
  refine RL.nil ?_
  refine X.seq ?_
  refine X.seq ?_
  refine X.region rfl ?_
  refine RL.move rfl ?_
  refine RL.len rfl sl28 rfl ?_
  refine RL.move rfl ?_
  refine RL.len rfl sl28 rfl ?_
  refine RL.cmp_s rfl rfl rfl rfl (fun h => ?_) (fun h => ?_)
  · replace h : (_ : Int) ≠ _ := h
    refine RL.nil ?_
    refine X.cond_t rfl ?_
    refine X.seq ?_
    refine X.region rfl ?_
    refine RL.assign rfl ?_
    refine RL.nil ?_
    refine X.ret ?_
    refine ret1 rfl ?_
    show (_ : Value) = _
    rw [decide_eq_false (fun e => h (by rw [e]))]
  · replace h : ¬ ((_ : Int) ≠ _) := h
    have hlen : xs.length = ys.length := by omega
    refine RL.nil ?_
    refine X.cond_f rfl ?_
    refine X.skip ?_
    refine X.seq ?_
    refine X.seq ?_
    refine X.region rfl ?_
    refine RL.assign rfl ?_
    refine RL.nil ?_
    refine X.block ?_
    refine X.loop (γ := Nat) (fun g ρ L => (g ≤ xs.length) ∧ (xs.take g = ys.take g) ∧ Has ρ [(0, .slice A xs.length c), (1, .slice B ys.length d), (5, .int .i64 g)] ∧ L = []) (fun g => xs.length - g) (0) ⟨_, (by repeat (first | exact List.Sublist.refl _ | exact List.nil_sublist _ | (rw [List.append_nil]; exact List.Sublist.refl _) | exact List.sublist_append_left _ _ | exact (List.sublist_append_left _ _).trans (List.sublist_append_left _ _) | apply List.Sublist.cons_cons | apply List.Sublist.cons | refine List.Sublist.trans ?_ (List.sublist_append_right _ _))), Nat.zero_le _, rfl, ⟨rfl, rfl, rfl, trivial⟩, rfl⟩ ?_
    rintro g _ _ ⟨q1, q2, hρ, rfl⟩
    obtain ⟨base, rfl⟩ := hρ.base
    clear hρ
    refine X.seq ?_
    refine X.seq ?_
    refine X.region rfl ?_
    refine RL.move rfl ?_
    refine RL.move rfl ?_
    refine RL.len rfl sl28 rfl ?_
    refine RL.cmp_s rfl rfl rfl rfl (fun hl => ?_) (fun hl => ?_)
    · replace hl : (_ : Int) < _ := hl
      obtain ⟨a, hxa⟩ : ∃ a, xs[g]? = some a := ⟨_, List.getElem?_eq_getElem (by omega)⟩
      obtain ⟨b, hyb⟩ : ∃ b, ys[g]? = some b := ⟨_, List.getElem?_eq_getElem (by omega)⟩
      have t1 := List.take_succ_eq_append_getElem (l := xs) (i := g) (by omega)
      have t2 := List.take_succ_eq_append_getElem (l := ys) (i := g) (by omega)
      have u1 : xs[g]'(by omega) = a := by rw [List.getElem?_eq_getElem (by omega)] at hxa; exact Option.some.inj hxa
      have u2 : ys[g]'(by omega) = b := by rw [List.getElem?_eq_getElem (by omega)] at hyb; exact Option.some.inj hyb
      refine RL.nil ?_
      refine X.cond_t rfl ?_
      refine X.skip ?_
      refine X.seq ?_
      refine X.block ?_
      refine X.seq ?_
      refine X.draw (by kernel_rfl) (by kernel_rfl) ?_
      refine RL.move rfl ?_
      refine RL.move rfl ?_
      refine RL.indexAddr rfl sl28 rfl rfl (ha1 (by omega)) rfl (by omega) ?_
      refine RL.loadI rfl sc3 rfl (by rw [Nat.mul_one]; exact ha2 g _ (ints_get hxa)) (by simp) ?_
      refine RL.move rfl ?_
      refine RL.move rfl ?_
      refine RL.indexAddr rfl sl28 rfl rfl (hb1 (by omega)) rfl (by omega) ?_
      refine RL.loadI rfl sc3 rfl (by rw [Nat.mul_one]; exact hb2 g _ (ints_get hyb)) (by simp) ?_
      refine RL.cmp_s rfl rfl rfl rfl (fun he => ?_) (fun he => ?_)
      · replace he : (_ : Int) ≠ _ := he
        refine RL.nil ?_
        refine X.cond_t rfl ?_
        refine X.seq ?_
        refine X.region rfl ?_
        refine RL.assign rfl ?_
        refine RL.nil ?_
        refine X.ret ?_
        refine ret1 rfl ?_
        show (_ : Value) = _
        rw [decide_eq_false]
        rintro rfl
        rw [hxa] at hyb
        exact he (Option.some.inj hyb)
      · replace he : ¬ ((_ : Int) ≠ _) := he
        refine RL.nil ?_
        refine X.cond_f rfl ?_
        refine X.skip ?_
        refine X.blk ?_
        refine X.region rfl ?_
        refine RL.move rfl ?_
        refine RL.add rfl rfl rfl (by omega) ?_
        refine RL.assign rfl ?_
        refine RL.nil ?_
        refine X.hyp ⟨rfl, g + 1, by omega, _, (by repeat (first | exact List.Sublist.refl _ | exact List.nil_sublist _ | (rw [List.append_nil]; exact List.Sublist.refl _) | exact List.sublist_append_left _ _ | exact (List.sublist_append_left _ _).trans (List.sublist_append_left _ _) | apply List.Sublist.cons_cons | apply List.Sublist.cons | refine List.Sublist.trans ?_ (List.sublist_append_right _ _))), by omega, by rw [t1, t2, q2, u1, u2]; congr 2; exact Decidable.not_not.1 he, ⟨rfl, rfl, rfl, trivial⟩, rfl⟩
    · replace hl : ¬ ((_ : Int) < _) := hl
      refine RL.nil ?_
      refine X.cond_f rfl ?_
      refine X.exit rfl ?_
      refine X.seq ?_
      refine X.region rfl ?_
      refine RL.assign rfl ?_
      refine RL.nil ?_
      refine X.ret ?_
      refine ret1 rfl ?_
      show (_ : Value) = _
      rw [decide_eq_true]
      rw [List.take_of_length_le (by omega), List.take_of_length_le (by omega)] at q2
      exact q2
theorem f_goes (l : List Ins) (hlen : l.length ≤ 1000) (A : Option Addr) (c : Nat) (w : World) (hrd : Rd w A (icells l)) (k i : Nat) (x : Ins) (hx : l[k]? = some x) (hi : i ≤ 1000) :
    Ctr Try.prog 21 [.slice A l.length c, .int .i64 k, .int .i64 i] w [] fun v _ => v = .bool (goesP x k i) := by
  obtain ⟨bb, oo, hA0, hc⟩ := hrd
  have hA : 0 < l.length → A = some ⟨bb, oo, none⟩ := fun h => hA0 (by rw [ecells_len Ins.len]; omega)
  have hk := (List.getElem?_eq_some_iff.1 hx).1
  refine Ctr.intro0 (n := 37) Try.func21 rfl Try.ntmps21 (Nat.le_of_ble_eq_true rfl) ?_
  refine X.seq ?_
  refine X.region rfl ?_
  refine RL.assign rfl ?_
  refine RL.nil ?_
  refine X.seq ?_
  refine X.seq ?_
  refine X.region rfl ?_
  refine RL.move rfl ?_
  refine RL.move rfl ?_
  refine RL.indexAddr rfl sl22 rfl rfl (hA (by omega)) rfl (by omega) ?_
  refine RL.fieldAddr rfl fd32_0 rfl ?_
  refine RL.loadI rfl sc3 rfl (CellsAt.at (elem_at Ins.len hc hx) rfl) (by simp) ?_
  refine RL.cmp_s rfl rfl rfl rfl (fun c1 => ?_) (fun c1 => ?_)
  · replace c1 : (_ : Int) = _ := c1
    refine RL.nil ?_
    refine X.cond_t rfl ?_
    refine X.seq ?_
    refine X.region rfl ?_
    refine RL.assign rfl ?_
    refine RL.nil ?_
    refine X.ret ?_
    refine ret1 rfl ?_
    show (_ : Value) = _
    unfold goesP
    first | exact congrArg Value.bool (decide_eq_true (by omega)).symm | exact congrArg Value.bool (decide_eq_false (by omega)).symm
  · replace c1 : ¬ ((_ : Int) = _) := c1
    refine RL.nil ?_
    refine X.cond_f rfl ?_
    refine X.skip ?_
    refine X.seq ?_
    refine X.region rfl ?_
    refine RL.move rfl ?_
    refine RL.move rfl ?_
    refine RL.add rfl rfl rfl (by omega) ?_
    refine RL.cmp_s rfl rfl rfl rfl (fun c2 => ?_) (fun c2 => ?_)
    · replace c2 : (_ : Int) = _ := c2
      refine RL.move rfl ?_
      refine RL.skip rfl ?_
      refine RL.skip rfl ?_
      refine RL.skip rfl ?_
      refine RL.skip rfl ?_
      refine RL.skip rfl ?_
      refine RL.skip rfl ?_
      refine RL.skip rfl ?_
      refine RL.skip rfl ?_
      refine RL.skip rfl ?_
      refine RL.skip rfl ?_
      refine RL.skip rfl ?_
      refine RL.skip rfl ?_
      refine RL.skip rfl ?_
      refine RL.skip rfl ?_
      refine RL.skip rfl ?_
      refine RL.skip rfl ?_
      refine RL.skip rfl ?_
      refine RL.skip rfl ?_
      refine RL.pick_t rfl rfl ?_
      refine RL.assign rfl ?_
      refine RL.nil ?_
      refine X.ret ?_
      refine ret1 rfl ?_
      show (_ : Value) = _
      unfold goesP
      first | exact congrArg Value.bool (decide_eq_true (by omega)).symm | exact congrArg Value.bool (decide_eq_false (by omega)).symm
    · replace c2 : ¬ ((_ : Int) = _) := c2
      refine RL.move rfl ?_
      refine RL.move rfl ?_
      refine RL.move rfl ?_
      refine RL.indexAddr rfl sl22 rfl rfl (hA (by omega)) rfl (by omega) ?_
      refine RL.fieldAddr rfl fd32_0 rfl ?_
      refine RL.loadI rfl sc3 rfl (CellsAt.at (elem_at Ins.len hc hx) rfl) (by simp) ?_
      refine RL.cmp_s rfl rfl rfl rfl (fun c3 => ?_) (fun c3 => ?_)
      · replace c3 : (_ : Int) = _ := c3
        refine RL.move rfl ?_
        refine RL.move rfl ?_
        refine RL.move rfl ?_
        refine RL.indexAddr rfl sl22 rfl rfl (hA (by omega)) rfl (by omega) ?_
        refine RL.fieldAddr rfl fd32_1 rfl ?_
        refine RL.loadI rfl sc3 rfl (CellsAt.at (elem_at Ins.len hc hx) rfl) (by simp) ?_
        refine RL.move rfl ?_
        refine RL.move rfl ?_
        refine RL.sub rfl rfl rfl (by omega) ?_
        refine RL.sub rfl rfl rfl (by omega) ?_
        refine RL.cmp_s rfl rfl rfl rfl (fun c4 => ?_) (fun c4 => ?_)
        · replace c4 : (_ : Int) = _ := c4
          refine RL.pick_t rfl rfl ?_
          refine RL.pick_f rfl rfl ?_
          refine RL.assign rfl ?_
          refine RL.nil ?_
          refine X.ret ?_
          refine ret1 rfl ?_
          show (_ : Value) = _
          unfold goesP
          first | exact congrArg Value.bool (decide_eq_true (by omega)).symm | exact congrArg Value.bool (decide_eq_false (by omega)).symm
        · replace c4 : ¬ ((_ : Int) = _) := c4
          refine RL.pick_t rfl rfl ?_
          refine RL.pick_f rfl rfl ?_
          refine RL.assign rfl ?_
          refine RL.nil ?_
          refine X.ret ?_
          refine ret1 rfl ?_
          show (_ : Value) = _
          unfold goesP
          first | exact congrArg Value.bool (decide_eq_true (by omega)).symm | exact congrArg Value.bool (decide_eq_false (by omega)).symm
      · replace c3 : ¬ ((_ : Int) = _) := c3
        refine RL.move rfl ?_
        refine RL.skip rfl ?_
        refine RL.skip rfl ?_
        refine RL.skip rfl ?_
        refine RL.skip rfl ?_
        refine RL.skip rfl ?_
        refine RL.skip rfl ?_
        refine RL.skip rfl ?_
        refine RL.skip rfl ?_
        refine RL.skip rfl ?_
        refine RL.skip rfl ?_
        refine RL.pick_f rfl rfl ?_
        refine RL.pick_f rfl rfl ?_
        refine RL.assign rfl ?_
        refine RL.nil ?_
        refine X.ret ?_
        refine ret1 rfl ?_
        show (_ : Value) = _
        unfold goesP
        first | exact congrArg Value.bool (decide_eq_true (by omega)).symm | exact congrArg Value.bool (decide_eq_false (by omega)).symm
end Go.Proofs.Ytaklegcphmfghaa

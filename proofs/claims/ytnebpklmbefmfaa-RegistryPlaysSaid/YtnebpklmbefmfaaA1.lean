/- The small functions of code: what each call comes to; what an instruction takes and lays, twice told. -/
import Derived.Test.YtnebpklmbefmfaaCode
set_option linter.unusedVariables false
set_option linter.unusedSimpArgs false
namespace Go.Proofs.Ytnebpklmbefmfaa
open Go.RowKit
attribute [local irreducible] X RL W Ctr
theorem f_pick (x n : Int) (w : World) (hn : n ≤ 1000) (hn0 : -1000 ≤ n) : Ctr Try.prog 9 [.int .i64 x, .int .i64 n] w [] fun v _ => v = .int .i64 (if n < 1 then 0 else x % n) := by
 refine Ctr.intro0 (n := 17) Try.func9 rfl Try.ntmps9 (Nat.le_of_ble_eq_true rfl) ?_
 refine X.seq ?_
 refine X.region rfl ?_
 refine RL.assign rfl ?_
 refine RL.nil ?_
 refine X.seq ?_
 refine X.seq ?_
 refine X.region rfl ?_
 refine RL.move rfl ?_
 refine RL.cmp_s rfl rfl rfl rfl (fun h => ?_) (fun h => ?_)
 ·replace h : (_ : Int) < _ := h
  refine RL.nil ?_
  refine X.cond_t rfl ?_
  refine X.seq ?_
  refine X.region rfl ?_
  refine RL.assign rfl ?_
  refine RL.nil ?_
  refine X.ret ?_
  refine ret1 rfl ?_
  show (_ : Value) = _
  rw [if_pos h]
 replace h : ¬ ((_ : Int) < _) := h
 have e1 := Int.emod_nonneg x (show n ≠ 0 by omega)
 have e2 := Int.emod_lt_of_pos x (show 0 < n by omega)
 have e3 : x.tmod n = if x % n = 0 ∨ 0 ≤ x then x % n else x % n - n := by
   rw [Int.tmod_eq_emod]
   have e4 : (n ∣ x) ↔ x % n = 0 := Int.dvd_iff_emod_eq_zero
   have e5 : (n.natAbs : Int) = n := by omega
   by_cases g1 : 0 ≤ x <;> by_cases g2 : x % n = 0 <;> simp [g1, g2, e4, e5]
 refine RL.nil ?_
 refine X.cond_f rfl ?_
 refine X.skip ?_
 refine X.seq ?_
 refine X.region rfl ?_
 refine RL.move rfl ?_
 refine RL.move rfl ?_
 refine RL.rem rfl rfl rfl (by omega) ?_
 refine RL.assign rfl ?_
 refine RL.nil ?_
 refine X.seq ?_
 refine X.seq ?_
 refine X.region rfl ?_
 refine RL.move rfl ?_
 refine RL.cmp_s rfl rfl rfl rfl (fun g => ?_) (fun g => ?_)
 ·replace g : (_ : Int) < _ := g
  refine RL.nil ?_
  refine X.cond_t rfl ?_
  refine X.region rfl ?_
  refine RL.move rfl ?_
  refine RL.move rfl ?_
  refine RL.add rfl rfl rfl (by rw [e3] at g ⊢; split <;> omega) ?_
  refine RL.assign rfl ?_
  refine RL.nil ?_
  refine X.seq ?_
  refine X.region rfl ?_
  refine RL.move rfl ?_
  refine RL.assign rfl ?_
  refine RL.nil ?_
  refine X.ret ?_
  refine ret1 rfl ?_
  show (_ : Value) = _
  rw [if_neg (by omega)]
  congr 1
  rw [e3] at g ⊢
  split at g <;> simp_all <;> omega
 replace g : ¬ ((_ : Int) < _) := g
 refine RL.nil ?_
 refine X.cond_f rfl ?_
 refine X.skip ?_
 refine X.seq ?_
 refine X.region rfl ?_
 refine RL.move rfl ?_
 refine RL.assign rfl ?_
 refine RL.nil ?_
 refine X.ret ?_
 refine ret1 rfl ?_
 show (_ : Value) = _
 rw [if_neg (by omega)]
 congr 1
 rw [e3] at g ⊢
 split at g <;> simp_all <;> omega
theorem f_goes (l : List Ins) (hlen : l.length ≤ 1000) (A : Option Addr) (c : Nat) (w : World) (hrd : Rd w A (icells l)) (k i : Nat) (x : Ins) (hx : l[k]? = some x) (hi : i ≤ 1000) :
    Ctr Try.prog 56 [.slice A l.length c, .int .i64 k, .int .i64 i] w [] fun v _ => v = .bool (goesP x k i) := by
 obtain ⟨bb, oo, hA0, hc⟩ := hrd
 have hA : 0 < l.length → A = some ⟨bb, oo, none⟩ := fun h => hA0 (by rw [ecells_len Ins.len]; omega)
 have hk := (List.getElem?_eq_some_iff.1 hx).1
 refine Ctr.intro0 (n := 37) Try.func56 rfl Try.ntmps56 (Nat.le_of_ble_eq_true rfl) ?_
 refine X.seq ?_
 refine X.region rfl ?_
 refine RL.assign rfl ?_
 refine RL.nil ?_
 refine X.seq ?_
 refine X.seq ?_
 refine X.region rfl ?_
 refine RL.move rfl ?_
 refine RL.move rfl ?_
 refine RL.indexAddr rfl sl78 rfl rfl (hA (by omega)) rfl (by omega) ?_
 refine RL.fieldAddr rfl fd77_0 rfl ?_
 refine RL.loadI rfl sc3 rfl (CellsAt.at (elem_at Ins.len hc hx) rfl) (by simp) ?_
 refine RL.cmp_s rfl rfl rfl rfl (fun c1 => ?_) (fun c1 => ?_)
 ·replace c1 : (_ : Int) = _ := c1
  refine RL.nil ?_
  refine X.cond_t rfl ?_
  refine X.seq ?_
  refine X.region rfl ?_
  refine RL.assign rfl ?_
  refine RL.nil ?_
  refine X.ret ?_
  refine ret1 rfl ?_
  show (_ : Value) = _
  unfold goesP
  first | exact congrArg Value.bool (decide_eq_true (by omega)).symm | exact congrArg Value.bool (decide_eq_false (by omega)).symm
 replace c1 : ¬ ((_ : Int) = _) := c1
 refine RL.nil ?_
 refine X.cond_f rfl ?_
 refine X.skip ?_
 refine X.seq ?_
 refine X.region rfl ?_
 refine RL.move rfl ?_
 refine RL.move rfl ?_
 refine RL.add rfl rfl rfl (by omega) ?_
 refine RL.cmp_s rfl rfl rfl rfl (fun c2 => ?_) (fun c2 => ?_)
 ·replace c2 : (_ : Int) = _ := c2
  refine RL.move rfl ?_
  refine RL.skip rfl ?_
  refine RL.skip rfl ?_
  refine RL.skip rfl ?_
  refine RL.skip rfl ?_
  refine RL.skip rfl ?_
  refine RL.skip rfl ?_
  refine RL.skip rfl ?_
  refine RL.skip rfl ?_
  refine RL.skip rfl ?_
  refine RL.skip rfl ?_
  refine RL.skip rfl ?_
  refine RL.skip rfl ?_
  refine RL.skip rfl ?_
  refine RL.skip rfl ?_
  refine RL.skip rfl ?_
  refine RL.skip rfl ?_
  refine RL.skip rfl ?_
  refine RL.skip rfl ?_
  refine RL.pick_t rfl rfl ?_
  refine RL.assign rfl ?_
  refine RL.nil ?_
  refine X.ret ?_
  refine ret1 rfl ?_
  show (_ : Value) = _
  unfold goesP
  first | exact congrArg Value.bool (decide_eq_true (by omega)).symm | exact congrArg Value.bool (decide_eq_false (by omega)).symm
 replace c2 : ¬ ((_ : Int) = _) := c2
 refine RL.move rfl ?_
 refine RL.move rfl ?_
 refine RL.move rfl ?_
 refine RL.indexAddr rfl sl78 rfl rfl (hA (by omega)) rfl (by omega) ?_
 refine RL.fieldAddr rfl fd77_0 rfl ?_
 refine RL.loadI rfl sc3 rfl (CellsAt.at (elem_at Ins.len hc hx) rfl) (by simp) ?_
 refine RL.cmp_s rfl rfl rfl rfl (fun c3 => ?_) (fun c3 => ?_)
 ·replace c3 : (_ : Int) = _ := c3
  refine RL.move rfl ?_
  refine RL.move rfl ?_
  refine RL.move rfl ?_
  refine RL.indexAddr rfl sl78 rfl rfl (hA (by omega)) rfl (by omega) ?_
  refine RL.fieldAddr rfl fd77_1 rfl ?_
  refine RL.loadI rfl sc3 rfl (CellsAt.at (elem_at Ins.len hc hx) rfl) (by simp) ?_
  refine RL.move rfl ?_
  refine RL.move rfl ?_
  refine RL.sub rfl rfl rfl (by omega) ?_
  refine RL.sub rfl rfl rfl (by omega) ?_
  refine RL.cmp_s rfl rfl rfl rfl (fun c4 => ?_) (fun c4 => ?_)
  ·replace c4 : (_ : Int) = _ := c4
   refine RL.pick_t rfl rfl ?_
   refine RL.pick_f rfl rfl ?_
   refine RL.assign rfl ?_
   refine RL.nil ?_
   refine X.ret ?_
   refine ret1 rfl ?_
   show (_ : Value) = _
   unfold goesP
   first | exact congrArg Value.bool (decide_eq_true (by omega)).symm | exact congrArg Value.bool (decide_eq_false (by omega)).symm
  replace c4 : ¬ ((_ : Int) = _) := c4
  refine RL.pick_t rfl rfl ?_
  refine RL.pick_f rfl rfl ?_
  refine RL.assign rfl ?_
  refine RL.nil ?_
  refine X.ret ?_
  refine ret1 rfl ?_
  show (_ : Value) = _
  unfold goesP
  first | exact congrArg Value.bool (decide_eq_true (by omega)).symm | exact congrArg Value.bool (decide_eq_false (by omega)).symm
 replace c3 : ¬ ((_ : Int) = _) := c3
 refine RL.move rfl ?_
 refine RL.skip rfl ?_
 refine RL.skip rfl ?_
 refine RL.skip rfl ?_
 refine RL.skip rfl ?_
 refine RL.skip rfl ?_
 refine RL.skip rfl ?_
 refine RL.skip rfl ?_
 refine RL.skip rfl ?_
 refine RL.skip rfl ?_
 refine RL.skip rfl ?_
 refine RL.pick_f rfl rfl ?_
 refine RL.pick_f rfl rfl ?_
 refine RL.assign rfl ?_
 refine RL.nil ?_
 refine X.ret ?_
 refine ret1 rfl ?_
 show (_ : Value) = _
 unfold goesP
 first | exact congrArg Value.bool (decide_eq_true (by omega)).symm | exact congrArg Value.bool (decide_eq_false (by omega)).symm
theorem f_rshape (x : Ins) (s : Int) (w : World) : Ctr Try.prog 57 [.agg x.cells.toArray, .int .i64 s] w [] fun v _ => v = .tuple #[.int .i64 (takeP x.op), .int .i64 (layP x.op), .bool (okP x s)] := by
 refine Ctr.intro0 (n := 89) Try.func57 rfl Try.ntmps57 (Nat.le_of_ble_eq_true rfl) ?_
 refine X.seq ?_
 refine X.region rfl ?_
 refine RL.boxA rfl rfl rfl ?_
 intro b hb
 dsimp only at hb
 refine RL.assign rfl ?_
 refine RL.assign rfl ?_
 refine RL.assign rfl ?_
 refine RL.nil ?_
 refine X.seq ?_
 refine X.cut (fun ρ ds L => ds = [] ∧ Has ρ [(2, .pointer (some ⟨b, 0, none⟩)), (4, .int .i64 0), (5, .int .i64 0), (6, .bool false), (1, .int .i64 s), (7, .bool (decide (x.a = 0 ∧ x.b = 0)))] ∧ L = [(b, cel 77 x.cells)]) ?_ ?_
 ·refine X.region rfl ?_
  refine RL.fieldAddr rfl fd77_1 rfl ?_
  refine RL.loadO rfl sc3 rfl rfl ?_
  refine RL.cmp_s rfl rfl rfl rfl (fun c1 => ?_) (fun c1 => ?_)
  ·replace c1 : (_ : Int) = _ := c1
   refine RL.move rfl ?_
   refine RL.fieldAddr rfl fd77_2 rfl ?_
   refine RL.loadO rfl sc3 rfl rfl ?_
   refine RL.cmp_s rfl rfl rfl rfl (fun c2 => ?_) (fun c2 => ?_)
   ·replace c2 : (_ : Int) = _ := c2
    refine RL.pick_t rfl rfl ?_
    refine RL.assign rfl ?_
    refine RL.nil ?_
    refine X.hyp ⟨rfl, ⟨rfl, rfl, rfl, rfl, rfl, ?_, trivial⟩, rfl⟩
    first | exact congrArg Value.bool (decide_eq_true (by omega)).symm | exact congrArg Value.bool (decide_eq_false (by omega)).symm
   replace c2 : ¬ ((_ : Int) = _) := c2
   refine RL.pick_t rfl rfl ?_
   refine RL.assign rfl ?_
   refine RL.nil ?_
   refine X.hyp ⟨rfl, ⟨rfl, rfl, rfl, rfl, rfl, ?_, trivial⟩, rfl⟩
   first | exact congrArg Value.bool (decide_eq_true (by omega)).symm | exact congrArg Value.bool (decide_eq_false (by omega)).symm
  replace c1 : ¬ ((_ : Int) = _) := c1
  refine RL.move rfl ?_
  refine RL.skip rfl ?_
  refine RL.skip rfl ?_
  refine RL.skip rfl ?_
  refine RL.pick_f rfl rfl ?_
  refine RL.assign rfl ?_
  refine RL.nil ?_
  refine X.hyp ⟨rfl, ⟨rfl, rfl, rfl, rfl, rfl, ?_, trivial⟩, rfl⟩
  first | exact congrArg Value.bool (decide_eq_true (by omega)).symm | exact congrArg Value.bool (decide_eq_false (by omega)).symm
 rintro _ _ _ ⟨rfl, hρ, rfl⟩
 obtain ⟨base, rfl⟩ := hρ.base
 clear hρ
 refine X.seq ?_
 refine X.cut (fun ρ ds L => ds = [] ∧ Has ρ [(2, .pointer (some ⟨b, 0, none⟩)), (4, .int .i64 0), (5, .int .i64 0), (6, .bool false), (1, .int .i64 s), (7, .bool (decide (x.a = 0 ∧ x.b = 0))), (8, .bool (decide (0 ≤ x.a ∧ x.a < s)))] ∧ L = [(b, cel 77 x.cells)]) ?_ ?_
 ·refine X.region rfl ?_
  refine RL.fieldAddr rfl fd77_1 rfl ?_
  refine RL.loadO rfl sc3 rfl rfl ?_
  refine RL.cmp_s rfl rfl rfl rfl (fun c3 => ?_) (fun c3 => ?_)
  ·replace c3 : (_ : Int) ≥ _ := c3
   refine RL.move rfl ?_
   refine RL.fieldAddr rfl fd77_1 rfl ?_
   refine RL.loadO rfl sc3 rfl rfl ?_
   refine RL.move rfl ?_
   refine RL.cmp_s rfl rfl rfl rfl (fun c4 => ?_) (fun c4 => ?_)
   ·replace c4 : (_ : Int) < _ := c4
    refine RL.pick_t rfl rfl ?_
    refine RL.assign rfl ?_
    refine RL.nil ?_
    refine X.hyp ⟨rfl, ⟨rfl, rfl, rfl, rfl, rfl, rfl, ?_, trivial⟩, rfl⟩
    first | exact congrArg Value.bool (decide_eq_true (by omega)).symm | exact congrArg Value.bool (decide_eq_false (by omega)).symm
   replace c4 : ¬ ((_ : Int) < _) := c4
   refine RL.pick_t rfl rfl ?_
   refine RL.assign rfl ?_
   refine RL.nil ?_
   refine X.hyp ⟨rfl, ⟨rfl, rfl, rfl, rfl, rfl, rfl, ?_, trivial⟩, rfl⟩
   first | exact congrArg Value.bool (decide_eq_true (by omega)).symm | exact congrArg Value.bool (decide_eq_false (by omega)).symm
  replace c3 : ¬ ((_ : Int) ≥ _) := c3
  refine RL.move rfl ?_
  refine RL.skip rfl ?_
  refine RL.skip rfl ?_
  refine RL.skip rfl ?_
  refine RL.skip rfl ?_
  refine RL.pick_f rfl rfl ?_
  refine RL.assign rfl ?_
  refine RL.nil ?_
  refine X.hyp ⟨rfl, ⟨rfl, rfl, rfl, rfl, rfl, rfl, ?_, trivial⟩, rfl⟩
  first | exact congrArg Value.bool (decide_eq_true (by omega)).symm | exact congrArg Value.bool (decide_eq_false (by omega)).symm
 rintro _ _ _ ⟨rfl, hρ, rfl⟩
 obtain ⟨base, rfl⟩ := hρ.base
 clear hρ
 by_cases h8 : 0 ≤ x.a ∧ x.a < s
 ·rw [decide_eq_true h8]
  refine X.seq ?_
  refine X.seq ?_
  refine X.region rfl ?_
  refine RL.fieldAddr rfl fd77_0 rfl ?_
  refine RL.loadO rfl sc3 rfl rfl ?_
  refine RL.nil ?_
  refine X.block ?_
  refine X.seq ?_
  refine X.region rfl ?_
  refine RL.cmp_s rfl rfl rfl rfl (fun c5 => ?_) (fun c5 => ?_)
  ·replace c5 : (_ : Int) = _ := c5
   refine RL.assign rfl ?_
   refine RL.nil ?_
   refine X.cond_t rfl ?_
   refine X.seq ?_
   refine X.draw (by kernel_rfl) (by kernel_rfl) ?_
   refine RL.fieldAddr rfl fd77_1 rfl ?_
   refine RL.loadO rfl sc3 rfl rfl ?_
   refine RL.cmp_s rfl rfl rfl rfl (fun c6 => ?_) (fun c6 => ?_)
   ·replace c6 : (_ : Int) ≥ _ := c6
    refine RL.move rfl ?_
    refine RL.fieldAddr rfl fd77_1 rfl ?_
    refine RL.loadO rfl sc3 rfl rfl ?_
    refine RL.cmp_s rfl rfl rfl rfl (fun c7 => ?_) (fun c7 => ?_)
    ·replace c7 : (_ : Int) ≤ _ := c7
     refine RL.pick_t rfl rfl ?_
     refine RL.move rfl ?_
     refine RL.fieldAddr rfl fd77_2 rfl ?_
     refine RL.loadO rfl sc3 rfl rfl ?_
     refine RL.cmp_s rfl rfl rfl rfl (fun c8 => ?_) (fun c8 => ?_)
     ·replace c8 : (_ : Int) = _ := c8
      refine RL.pick_t rfl rfl ?_
      refine RL.assign rfl ?_
      refine RL.assign rfl ?_
      refine RL.assign rfl ?_
      refine RL.nil ?_
      refine X.ret ?_
      refine ret3 rfl ?_
      show (_ : Value) = _
      exact shape_eq (by unfold takeP; split <;> (try split) <;> omega) (by unfold layP; split <;> omega) (by unfold okP; (repeat' split) <;> first | rfl | exact (decide_eq_true (by omega)).symm | exact (decide_eq_false (by omega)).symm | omega)
     replace c8 : ¬ ((_ : Int) = _) := c8
     refine RL.pick_t rfl rfl ?_
     refine RL.assign rfl ?_
     refine RL.assign rfl ?_
     refine RL.assign rfl ?_
     refine RL.nil ?_
     refine X.ret ?_
     refine ret3 rfl ?_
     show (_ : Value) = _
     exact shape_eq (by unfold takeP; split <;> (try split) <;> omega) (by unfold layP; split <;> omega) (by unfold okP; (repeat' split) <;> first | rfl | exact (decide_eq_true (by omega)).symm | exact (decide_eq_false (by omega)).symm | omega)
    replace c7 : ¬ ((_ : Int) ≤ _) := c7
    refine RL.pick_t rfl rfl ?_
    refine RL.move rfl ?_
    refine RL.skip rfl ?_
    refine RL.skip rfl ?_
    refine RL.skip rfl ?_
    refine RL.pick_f rfl rfl ?_
    refine RL.assign rfl ?_
    refine RL.assign rfl ?_
    refine RL.assign rfl ?_
    refine RL.nil ?_
    refine X.ret ?_
    refine ret3 rfl ?_
    show (_ : Value) = _
    exact shape_eq (by unfold takeP; split <;> (try split) <;> omega) (by unfold layP; split <;> omega) (by unfold okP; (repeat' split) <;> first | rfl | exact (decide_eq_true (by omega)).symm | exact (decide_eq_false (by omega)).symm | omega)
   replace c6 : ¬ ((_ : Int) ≥ _) := c6
   refine RL.move rfl ?_
   refine RL.skip rfl ?_
   refine RL.skip rfl ?_
   refine RL.skip rfl ?_
   refine RL.pick_f rfl rfl ?_
   refine RL.move rfl ?_
   refine RL.skip rfl ?_
   refine RL.skip rfl ?_
   refine RL.skip rfl ?_
   refine RL.pick_f rfl rfl ?_
   refine RL.assign rfl ?_
   refine RL.assign rfl ?_
   refine RL.assign rfl ?_
   refine RL.nil ?_
   refine X.ret ?_
   refine ret3 rfl ?_
   show (_ : Value) = _
   exact shape_eq (by unfold takeP; split <;> (try split) <;> omega) (by unfold layP; split <;> omega) (by unfold okP; (repeat' split) <;> first | rfl | exact (decide_eq_true (by omega)).symm | exact (decide_eq_false (by omega)).symm | omega)
  replace c5 : ¬ ((_ : Int) = _) := c5
  refine RL.assign rfl ?_
  refine RL.nil ?_
  refine X.cond_f rfl ?_
  refine X.seq ?_
  refine X.seq ?_
  refine X.region rfl ?_
  refine RL.cmp_s rfl rfl rfl rfl (fun c9 => ?_) (fun c9 => ?_)
  ·replace c9 : (_ : Int) = _ := c9
   refine RL.assign rfl ?_
   refine RL.nil ?_
   refine X.cond_t rfl ?_
   refine X.skip ?_
   refine X.cond_t rfl ?_
   refine X.seq ?_
   refine X.region rfl ?_
   refine RL.move rfl ?_
   refine RL.assign rfl ?_
   refine RL.assign rfl ?_
   refine RL.assign rfl ?_
   refine RL.nil ?_
   refine X.ret ?_
   refine ret3 rfl ?_
   show (_ : Value) = _
   exact shape_eq (by unfold takeP; split <;> (try split) <;> omega) (by unfold layP; split <;> omega) (by unfold okP; (repeat' split) <;> first | rfl | exact (decide_eq_true (by omega)).symm | exact (decide_eq_false (by omega)).symm | omega)
  replace c9 : ¬ ((_ : Int) = _) := c9
  refine RL.assign rfl ?_
  refine RL.nil ?_
  refine X.cond_f rfl ?_
  refine X.region rfl ?_
  refine RL.cmp_s rfl rfl rfl rfl (fun c10 => ?_) (fun c10 => ?_)
  ·replace c10 : (_ : Int) = _ := c10
   refine RL.assign rfl ?_
   refine RL.nil ?_
   refine X.cond_t rfl ?_
   refine X.seq ?_
   refine X.region rfl ?_
   refine RL.move rfl ?_
   refine RL.assign rfl ?_
   refine RL.assign rfl ?_
   refine RL.assign rfl ?_
   refine RL.nil ?_
   refine X.ret ?_
   refine ret3 rfl ?_
   show (_ : Value) = _
   exact shape_eq (by unfold takeP; split <;> (try split) <;> omega) (by unfold layP; split <;> omega) (by unfold okP; (repeat' split) <;> first | rfl | exact (decide_eq_true (by omega)).symm | exact (decide_eq_false (by omega)).symm | omega)
  replace c10 : ¬ ((_ : Int) = _) := c10
  refine RL.assign rfl ?_
  refine RL.nil ?_
  refine X.cond_f rfl ?_
  refine X.seq ?_
  refine X.seq ?_
  refine X.region rfl ?_
  refine RL.cmp_s rfl rfl rfl rfl (fun c11 => ?_) (fun c11 => ?_)
  ·replace c11 : (_ : Int) = _ := c11
   refine RL.assign rfl ?_
   refine RL.nil ?_
   refine X.cond_t rfl ?_
   refine X.skip ?_
   refine X.cond_t rfl ?_
   refine X.seq ?_
   refine X.region rfl ?_
   refine RL.move rfl ?_
   refine RL.assign rfl ?_
   refine RL.assign rfl ?_
   refine RL.assign rfl ?_
   refine RL.nil ?_
   refine X.ret ?_
   refine ret3 rfl ?_
   show (_ : Value) = _
   exact shape_eq (by unfold takeP; split <;> (try split) <;> omega) (by unfold layP; split <;> omega) (by unfold okP; (repeat' split) <;> first | rfl | exact (decide_eq_true (by omega)).symm | exact (decide_eq_false (by omega)).symm | omega)
  replace c11 : ¬ ((_ : Int) = _) := c11
  refine RL.assign rfl ?_
  refine RL.nil ?_
  refine X.cond_f rfl ?_
  refine X.region rfl ?_
  refine RL.cmp_s rfl rfl rfl rfl (fun c12 => ?_) (fun c12 => ?_)
  ·replace c12 : (_ : Int) = _ := c12
   refine RL.assign rfl ?_
   refine RL.nil ?_
   refine X.cond_t rfl ?_
   refine X.seq ?_
   refine X.region rfl ?_
   refine RL.move rfl ?_
   refine RL.assign rfl ?_
   refine RL.assign rfl ?_
   refine RL.assign rfl ?_
   refine RL.nil ?_
   refine X.ret ?_
   refine ret3 rfl ?_
   show (_ : Value) = _
   exact shape_eq (by unfold takeP; split <;> (try split) <;> omega) (by unfold layP; split <;> omega) (by unfold okP; (repeat' split) <;> first | rfl | exact (decide_eq_true (by omega)).symm | exact (decide_eq_false (by omega)).symm | omega)
  replace c12 : ¬ ((_ : Int) = _) := c12
  refine RL.assign rfl ?_
  refine RL.nil ?_
  refine X.cond_f rfl ?_
  refine X.seq ?_
  refine X.region rfl ?_
  refine RL.cmp_s rfl rfl rfl rfl (fun c13 => ?_) (fun c13 => ?_)
  ·replace c13 : (_ : Int) = _ := c13
   refine RL.assign rfl ?_
   refine RL.nil ?_
   refine X.cond_t rfl ?_
   refine X.seq ?_
   refine X.region rfl ?_
   refine RL.move rfl ?_
   refine RL.assign rfl ?_
   refine RL.assign rfl ?_
   refine RL.assign rfl ?_
   refine RL.nil ?_
   refine X.ret ?_
   refine ret3 rfl ?_
   show (_ : Value) = _
   exact shape_eq (by unfold takeP; split <;> (try split) <;> omega) (by unfold layP; split <;> omega) (by unfold okP; (repeat' split) <;> first | rfl | exact (decide_eq_true (by omega)).symm | exact (decide_eq_false (by omega)).symm | omega)
  replace c13 : ¬ ((_ : Int) = _) := c13
  refine RL.assign rfl ?_
  refine RL.nil ?_
  refine X.cond_f rfl ?_
  refine X.seq ?_
  refine X.region rfl ?_
  refine RL.cmp_s rfl rfl rfl rfl (fun c14 => ?_) (fun c14 => ?_)
  ·replace c14 : (_ : Int) = _ := c14
   refine RL.assign rfl ?_
   refine RL.nil ?_
   refine X.cond_t rfl ?_
   refine X.seq ?_
   refine X.region rfl ?_
   refine RL.move rfl ?_
   refine RL.assign rfl ?_
   refine RL.assign rfl ?_
   refine RL.assign rfl ?_
   refine RL.nil ?_
   refine X.ret ?_
   refine ret3 rfl ?_
   show (_ : Value) = _
   exact shape_eq (by unfold takeP; split <;> (try split) <;> omega) (by unfold layP; split <;> omega) (by unfold okP; (repeat' split) <;> first | rfl | exact (decide_eq_true (by omega)).symm | exact (decide_eq_false (by omega)).symm | omega)
  replace c14 : ¬ ((_ : Int) = _) := c14
  refine RL.assign rfl ?_
  refine RL.nil ?_
  refine X.cond_f rfl ?_
  refine X.seq ?_
  refine X.region rfl ?_
  refine RL.cmp_s rfl rfl rfl rfl (fun c15 => ?_) (fun c15 => ?_)
  ·replace c15 : (_ : Int) = _ := c15
   refine RL.assign rfl ?_
   refine RL.nil ?_
   refine X.cond_t rfl ?_
   refine X.seq ?_
   refine X.draw (by kernel_rfl) (by kernel_rfl) ?_
   refine RL.fieldAddr rfl fd77_1 rfl ?_
   refine RL.loadO rfl sc3 rfl rfl ?_
   refine RL.cmp_s rfl rfl rfl rfl (fun c16 => ?_) (fun c16 => ?_)
   ·replace c16 : (_ : Int) ≥ _ := c16
    refine RL.move rfl ?_
    refine RL.fieldAddr rfl fd77_2 rfl ?_
    refine RL.loadO rfl sc3 rfl rfl ?_
    refine RL.cmp_s rfl rfl rfl rfl (fun c17 => ?_) (fun c17 => ?_)
    ·replace c17 : (_ : Int) = _ := c17
     refine RL.pick_t rfl rfl ?_
     refine RL.assign rfl ?_
     refine RL.assign rfl ?_
     refine RL.assign rfl ?_
     refine RL.nil ?_
     refine X.ret ?_
     refine ret3 rfl ?_
     show (_ : Value) = _
     exact shape_eq (by unfold takeP; split <;> (try split) <;> omega) (by unfold layP; split <;> omega) (by unfold okP; (repeat' split) <;> first | rfl | exact (decide_eq_true (by omega)).symm | exact (decide_eq_false (by omega)).symm | omega)
    replace c17 : ¬ ((_ : Int) = _) := c17
    refine RL.pick_t rfl rfl ?_
    refine RL.assign rfl ?_
    refine RL.assign rfl ?_
    refine RL.assign rfl ?_
    refine RL.nil ?_
    refine X.ret ?_
    refine ret3 rfl ?_
    show (_ : Value) = _
    exact shape_eq (by unfold takeP; split <;> (try split) <;> omega) (by unfold layP; split <;> omega) (by unfold okP; (repeat' split) <;> first | rfl | exact (decide_eq_true (by omega)).symm | exact (decide_eq_false (by omega)).symm | omega)
   replace c16 : ¬ ((_ : Int) ≥ _) := c16
   refine RL.move rfl ?_
   refine RL.skip rfl ?_
   refine RL.skip rfl ?_
   refine RL.skip rfl ?_
   refine RL.pick_f rfl rfl ?_
   refine RL.assign rfl ?_
   refine RL.assign rfl ?_
   refine RL.assign rfl ?_
   refine RL.nil ?_
   refine X.ret ?_
   refine ret3 rfl ?_
   show (_ : Value) = _
   exact shape_eq (by unfold takeP; split <;> (try split) <;> omega) (by unfold layP; split <;> omega) (by unfold okP; (repeat' split) <;> first | rfl | exact (decide_eq_true (by omega)).symm | exact (decide_eq_false (by omega)).symm | omega)
  replace c15 : ¬ ((_ : Int) = _) := c15
  refine RL.assign rfl ?_
  refine RL.nil ?_
  refine X.cond_f rfl ?_
  refine X.seq ?_
  refine X.region rfl ?_
  refine RL.cmp_s rfl rfl rfl rfl (fun c18 => ?_) (fun c18 => ?_)
  ·replace c18 : (_ : Int) = _ := c18
   refine RL.assign rfl ?_
   refine RL.nil ?_
   refine X.cond_t rfl ?_
   refine X.seq ?_
   refine X.draw (by kernel_rfl) (by kernel_rfl) ?_
   refine RL.move rfl ?_
   refine RL.move rfl ?_
   refine RL.fieldAddr rfl fd77_2 rfl ?_
   refine RL.loadO rfl sc3 rfl rfl ?_
   refine RL.cmp_s rfl rfl rfl rfl (fun c19 => ?_) (fun c19 => ?_)
   ·replace c19 : (_ : Int) ≥ _ := c19
    refine RL.pick_t rfl rfl ?_
    refine RL.move rfl ?_
    refine RL.fieldAddr rfl fd77_2 rfl ?_
    refine RL.loadO rfl sc3 rfl rfl ?_
    refine RL.cmp_s rfl rfl rfl rfl (fun c20 => ?_) (fun c20 => ?_)
    ·replace c20 : (_ : Int) ≤ _ := c20
     refine RL.pick_t rfl rfl ?_
     refine RL.assign rfl ?_
     refine RL.assign rfl ?_
     refine RL.assign rfl ?_
     refine RL.nil ?_
     refine X.ret ?_
     refine ret3 rfl ?_
     show (_ : Value) = _
     exact shape_eq (by unfold takeP; split <;> (try split) <;> omega) (by unfold layP; split <;> omega) (by unfold okP; (repeat' split) <;> first | rfl | exact (decide_eq_true (by omega)).symm | exact (decide_eq_false (by omega)).symm | omega)
    replace c20 : ¬ ((_ : Int) ≤ _) := c20
    refine RL.pick_t rfl rfl ?_
    refine RL.assign rfl ?_
    refine RL.assign rfl ?_
    refine RL.assign rfl ?_
    refine RL.nil ?_
    refine X.ret ?_
    refine ret3 rfl ?_
    show (_ : Value) = _
    exact shape_eq (by unfold takeP; split <;> (try split) <;> omega) (by unfold layP; split <;> omega) (by unfold okP; (repeat' split) <;> first | rfl | exact (decide_eq_true (by omega)).symm | exact (decide_eq_false (by omega)).symm | omega)
   replace c19 : ¬ ((_ : Int) ≥ _) := c19
   refine RL.pick_t rfl rfl ?_
   refine RL.move rfl ?_
   refine RL.skip rfl ?_
   refine RL.skip rfl ?_
   refine RL.skip rfl ?_
   refine RL.pick_f rfl rfl ?_
   refine RL.assign rfl ?_
   refine RL.assign rfl ?_
   refine RL.assign rfl ?_
   refine RL.nil ?_
   refine X.ret ?_
   refine ret3 rfl ?_
   show (_ : Value) = _
   exact shape_eq (by unfold takeP; split <;> (try split) <;> omega) (by unfold layP; split <;> omega) (by unfold okP; (repeat' split) <;> first | rfl | exact (decide_eq_true (by omega)).symm | exact (decide_eq_false (by omega)).symm | omega)
  replace c18 : ¬ ((_ : Int) = _) := c18
  refine RL.assign rfl ?_
  refine RL.nil ?_
  refine X.cond_f rfl ?_
  refine X.seq ?_
  refine X.seq ?_
  refine X.region rfl ?_
  refine RL.cmp_s rfl rfl rfl rfl (fun c21 => ?_) (fun c21 => ?_)
  ·replace c21 : (_ : Int) = _ := c21
   refine RL.assign rfl ?_
   refine RL.nil ?_
   refine X.cond_t rfl ?_
   refine X.skip ?_
   refine X.cond_t rfl ?_
   refine X.seq ?_
   refine X.draw (by kernel_rfl) (by kernel_rfl) ?_
   refine RL.move rfl ?_
   refine RL.move rfl ?_
   refine RL.fieldAddr rfl fd77_2 rfl ?_
   refine RL.loadO rfl sc3 rfl rfl ?_
   refine RL.cmp_s rfl rfl rfl rfl (fun c22 => ?_) (fun c22 => ?_)
   ·replace c22 : (_ : Int) = _ := c22
    refine RL.pick_t rfl rfl ?_
    refine RL.assign rfl ?_
    refine RL.assign rfl ?_
    refine RL.assign rfl ?_
    refine RL.nil ?_
    refine X.ret ?_
    refine ret3 rfl ?_
    show (_ : Value) = _
    exact shape_eq (by unfold takeP; split <;> (try split) <;> omega) (by unfold layP; split <;> omega) (by unfold okP; (repeat' split) <;> first | rfl | exact (decide_eq_true (by omega)).symm | exact (decide_eq_false (by omega)).symm | omega)
   replace c22 : ¬ ((_ : Int) = _) := c22
   refine RL.pick_t rfl rfl ?_
   refine RL.assign rfl ?_
   refine RL.assign rfl ?_
   refine RL.assign rfl ?_
   refine RL.nil ?_
   refine X.ret ?_
   refine ret3 rfl ?_
   show (_ : Value) = _
   exact shape_eq (by unfold takeP; split <;> (try split) <;> omega) (by unfold layP; split <;> omega) (by unfold okP; (repeat' split) <;> first | rfl | exact (decide_eq_true (by omega)).symm | exact (decide_eq_false (by omega)).symm | omega)
  replace c21 : ¬ ((_ : Int) = _) := c21
  refine RL.assign rfl ?_
  refine RL.nil ?_
  refine X.cond_f rfl ?_
  refine X.region rfl ?_
  refine RL.cmp_s rfl rfl rfl rfl (fun c23 => ?_) (fun c23 => ?_)
  ·replace c23 : (_ : Int) = _ := c23
   refine RL.assign rfl ?_
   refine RL.nil ?_
   refine X.cond_t rfl ?_
   refine X.seq ?_
   refine X.draw (by kernel_rfl) (by kernel_rfl) ?_
   refine RL.move rfl ?_
   refine RL.move rfl ?_
   refine RL.fieldAddr rfl fd77_2 rfl ?_
   refine RL.loadO rfl sc3 rfl rfl ?_
   refine RL.cmp_s rfl rfl rfl rfl (fun c24 => ?_) (fun c24 => ?_)
   ·replace c24 : (_ : Int) = _ := c24
    refine RL.pick_t rfl rfl ?_
    refine RL.assign rfl ?_
    refine RL.assign rfl ?_
    refine RL.assign rfl ?_
    refine RL.nil ?_
    refine X.ret ?_
    refine ret3 rfl ?_
    show (_ : Value) = _
    exact shape_eq (by unfold takeP; split <;> (try split) <;> omega) (by unfold layP; split <;> omega) (by unfold okP; (repeat' split) <;> first | rfl | exact (decide_eq_true (by omega)).symm | exact (decide_eq_false (by omega)).symm | omega)
   replace c24 : ¬ ((_ : Int) = _) := c24
   refine RL.pick_t rfl rfl ?_
   refine RL.assign rfl ?_
   refine RL.assign rfl ?_
   refine RL.assign rfl ?_
   refine RL.nil ?_
   refine X.ret ?_
   refine ret3 rfl ?_
   show (_ : Value) = _
   exact shape_eq (by unfold takeP; split <;> (try split) <;> omega) (by unfold layP; split <;> omega) (by unfold okP; (repeat' split) <;> first | rfl | exact (decide_eq_true (by omega)).symm | exact (decide_eq_false (by omega)).symm | omega)
  replace c23 : ¬ ((_ : Int) = _) := c23
  refine RL.assign rfl ?_
  refine RL.nil ?_
  refine X.cond_f rfl ?_
  refine X.skip ?_
  refine X.blk ?_
  refine X.seq ?_
  refine X.region rfl ?_
  refine RL.assign rfl ?_
  refine RL.assign rfl ?_
  refine RL.assign rfl ?_
  refine RL.nil ?_
  refine X.ret ?_
  refine ret3 rfl ?_
  show (_ : Value) = _
  exact shape_eq (by unfold takeP; split <;> (try split) <;> omega) (by unfold layP; split <;> omega) (by unfold okP; (repeat' split) <;> first | rfl | exact (decide_eq_true (by omega)).symm | exact (decide_eq_false (by omega)).symm | omega)
 rw [decide_eq_false h8]
 refine X.seq ?_
 refine X.seq ?_
 refine X.region rfl ?_
 refine RL.fieldAddr rfl fd77_0 rfl ?_
 refine RL.loadO rfl sc3 rfl rfl ?_
 refine RL.nil ?_
 refine X.block ?_
 refine X.seq ?_
 refine X.region rfl ?_
 refine RL.cmp_s rfl rfl rfl rfl (fun c25 => ?_) (fun c25 => ?_)
 ·replace c25 : (_ : Int) = _ := c25
  refine RL.assign rfl ?_
  refine RL.nil ?_
  refine X.cond_t rfl ?_
  refine X.seq ?_
  refine X.draw (by kernel_rfl) (by kernel_rfl) ?_
  refine RL.fieldAddr rfl fd77_1 rfl ?_
  refine RL.loadO rfl sc3 rfl rfl ?_
  refine RL.cmp_s rfl rfl rfl rfl (fun c26 => ?_) (fun c26 => ?_)
  ·replace c26 : (_ : Int) ≥ _ := c26
   refine RL.move rfl ?_
   refine RL.fieldAddr rfl fd77_1 rfl ?_
   refine RL.loadO rfl sc3 rfl rfl ?_
   refine RL.cmp_s rfl rfl rfl rfl (fun c27 => ?_) (fun c27 => ?_)
   ·replace c27 : (_ : Int) ≤ _ := c27
    refine RL.pick_t rfl rfl ?_
    refine RL.move rfl ?_
    refine RL.fieldAddr rfl fd77_2 rfl ?_
    refine RL.loadO rfl sc3 rfl rfl ?_
    refine RL.cmp_s rfl rfl rfl rfl (fun c28 => ?_) (fun c28 => ?_)
    ·replace c28 : (_ : Int) = _ := c28
     refine RL.pick_t rfl rfl ?_
     refine RL.assign rfl ?_
     refine RL.assign rfl ?_
     refine RL.assign rfl ?_
     refine RL.nil ?_
     refine X.ret ?_
     refine ret3 rfl ?_
     show (_ : Value) = _
     exact shape_eq (by unfold takeP; split <;> (try split) <;> omega) (by unfold layP; split <;> omega) (by unfold okP; (repeat' split) <;> first | rfl | exact (decide_eq_true (by omega)).symm | exact (decide_eq_false (by omega)).symm | omega)
    replace c28 : ¬ ((_ : Int) = _) := c28
    refine RL.pick_t rfl rfl ?_
    refine RL.assign rfl ?_
    refine RL.assign rfl ?_
    refine RL.assign rfl ?_
    refine RL.nil ?_
    refine X.ret ?_
    refine ret3 rfl ?_
    show (_ : Value) = _
    exact shape_eq (by unfold takeP; split <;> (try split) <;> omega) (by unfold layP; split <;> omega) (by unfold okP; (repeat' split) <;> first | rfl | exact (decide_eq_true (by omega)).symm | exact (decide_eq_false (by omega)).symm | omega)
   replace c27 : ¬ ((_ : Int) ≤ _) := c27
   refine RL.pick_t rfl rfl ?_
   refine RL.move rfl ?_
   refine RL.skip rfl ?_
   refine RL.skip rfl ?_
   refine RL.skip rfl ?_
   refine RL.pick_f rfl rfl ?_
   refine RL.assign rfl ?_
   refine RL.assign rfl ?_
   refine RL.assign rfl ?_
   refine RL.nil ?_
   refine X.ret ?_
   refine ret3 rfl ?_
   show (_ : Value) = _
   exact shape_eq (by unfold takeP; split <;> (try split) <;> omega) (by unfold layP; split <;> omega) (by unfold okP; (repeat' split) <;> first | rfl | exact (decide_eq_true (by omega)).symm | exact (decide_eq_false (by omega)).symm | omega)
  replace c26 : ¬ ((_ : Int) ≥ _) := c26
  refine RL.move rfl ?_
  refine RL.skip rfl ?_
  refine RL.skip rfl ?_
  refine RL.skip rfl ?_
  refine RL.pick_f rfl rfl ?_
  refine RL.move rfl ?_
  refine RL.skip rfl ?_
  refine RL.skip rfl ?_
  refine RL.skip rfl ?_
  refine RL.pick_f rfl rfl ?_
  refine RL.assign rfl ?_
  refine RL.assign rfl ?_
  refine RL.assign rfl ?_
  refine RL.nil ?_
  refine X.ret ?_
  refine ret3 rfl ?_
  show (_ : Value) = _
  exact shape_eq (by unfold takeP; split <;> (try split) <;> omega) (by unfold layP; split <;> omega) (by unfold okP; (repeat' split) <;> first | rfl | exact (decide_eq_true (by omega)).symm | exact (decide_eq_false (by omega)).symm | omega)
 replace c25 : ¬ ((_ : Int) = _) := c25
 refine RL.assign rfl ?_
 refine RL.nil ?_
 refine X.cond_f rfl ?_
 refine X.seq ?_
 refine X.seq ?_
 refine X.region rfl ?_
 refine RL.cmp_s rfl rfl rfl rfl (fun c29 => ?_) (fun c29 => ?_)
 ·replace c29 : (_ : Int) = _ := c29
  refine RL.assign rfl ?_
  refine RL.nil ?_
  refine X.cond_t rfl ?_
  refine X.skip ?_
  refine X.cond_t rfl ?_
  refine X.seq ?_
  refine X.region rfl ?_
  refine RL.move rfl ?_
  refine RL.assign rfl ?_
  refine RL.assign rfl ?_
  refine RL.assign rfl ?_
  refine RL.nil ?_
  refine X.ret ?_
  refine ret3 rfl ?_
  show (_ : Value) = _
  exact shape_eq (by unfold takeP; split <;> (try split) <;> omega) (by unfold layP; split <;> omega) (by unfold okP; (repeat' split) <;> first | rfl | exact (decide_eq_true (by omega)).symm | exact (decide_eq_false (by omega)).symm | omega)
 replace c29 : ¬ ((_ : Int) = _) := c29
 refine RL.assign rfl ?_
 refine RL.nil ?_
 refine X.cond_f rfl ?_
 refine X.region rfl ?_
 refine RL.cmp_s rfl rfl rfl rfl (fun c30 => ?_) (fun c30 => ?_)
 ·replace c30 : (_ : Int) = _ := c30
  refine RL.assign rfl ?_
  refine RL.nil ?_
  refine X.cond_t rfl ?_
  refine X.seq ?_
  refine X.region rfl ?_
  refine RL.move rfl ?_
  refine RL.assign rfl ?_
  refine RL.assign rfl ?_
  refine RL.assign rfl ?_
  refine RL.nil ?_
  refine X.ret ?_
  refine ret3 rfl ?_
  show (_ : Value) = _
  exact shape_eq (by unfold takeP; split <;> (try split) <;> omega) (by unfold layP; split <;> omega) (by unfold okP; (repeat' split) <;> first | rfl | exact (decide_eq_true (by omega)).symm | exact (decide_eq_false (by omega)).symm | omega)
 replace c30 : ¬ ((_ : Int) = _) := c30
 refine RL.assign rfl ?_
 refine RL.nil ?_
 refine X.cond_f rfl ?_
 refine X.seq ?_
 refine X.seq ?_
 refine X.region rfl ?_
 refine RL.cmp_s rfl rfl rfl rfl (fun c31 => ?_) (fun c31 => ?_)
 ·replace c31 : (_ : Int) = _ := c31
  refine RL.assign rfl ?_
  refine RL.nil ?_
  refine X.cond_t rfl ?_
  refine X.skip ?_
  refine X.cond_t rfl ?_
  refine X.seq ?_
  refine X.region rfl ?_
  refine RL.move rfl ?_
  refine RL.assign rfl ?_
  refine RL.assign rfl ?_
  refine RL.assign rfl ?_
  refine RL.nil ?_
  refine X.ret ?_
  refine ret3 rfl ?_
  show (_ : Value) = _
  exact shape_eq (by unfold takeP; split <;> (try split) <;> omega) (by unfold layP; split <;> omega) (by unfold okP; (repeat' split) <;> first | rfl | exact (decide_eq_true (by omega)).symm | exact (decide_eq_false (by omega)).symm | omega)
 replace c31 : ¬ ((_ : Int) = _) := c31
 refine RL.assign rfl ?_
 refine RL.nil ?_
 refine X.cond_f rfl ?_
 refine X.region rfl ?_
 refine RL.cmp_s rfl rfl rfl rfl (fun c32 => ?_) (fun c32 => ?_)
 ·replace c32 : (_ : Int) = _ := c32
  refine RL.assign rfl ?_
  refine RL.nil ?_
  refine X.cond_t rfl ?_
  refine X.seq ?_
  refine X.region rfl ?_
  refine RL.move rfl ?_
  refine RL.assign rfl ?_
  refine RL.assign rfl ?_
  refine RL.assign rfl ?_
  refine RL.nil ?_
  refine X.ret ?_
  refine ret3 rfl ?_
  show (_ : Value) = _
  exact shape_eq (by unfold takeP; split <;> (try split) <;> omega) (by unfold layP; split <;> omega) (by unfold okP; (repeat' split) <;> first | rfl | exact (decide_eq_true (by omega)).symm | exact (decide_eq_false (by omega)).symm | omega)
 replace c32 : ¬ ((_ : Int) = _) := c32
 refine RL.assign rfl ?_
 refine RL.nil ?_
 refine X.cond_f rfl ?_
 refine X.seq ?_
 refine X.region rfl ?_
 refine RL.cmp_s rfl rfl rfl rfl (fun c33 => ?_) (fun c33 => ?_)
 ·replace c33 : (_ : Int) = _ := c33
  refine RL.assign rfl ?_
  refine RL.nil ?_
  refine X.cond_t rfl ?_
  refine X.seq ?_
  refine X.region rfl ?_
  refine RL.move rfl ?_
  refine RL.assign rfl ?_
  refine RL.assign rfl ?_
  refine RL.assign rfl ?_
  refine RL.nil ?_
  refine X.ret ?_
  refine ret3 rfl ?_
  show (_ : Value) = _
  exact shape_eq (by unfold takeP; split <;> (try split) <;> omega) (by unfold layP; split <;> omega) (by unfold okP; (repeat' split) <;> first | rfl | exact (decide_eq_true (by omega)).symm | exact (decide_eq_false (by omega)).symm | omega)
 replace c33 : ¬ ((_ : Int) = _) := c33
 refine RL.assign rfl ?_
 refine RL.nil ?_
 refine X.cond_f rfl ?_
 refine X.seq ?_
 refine X.region rfl ?_
 refine RL.cmp_s rfl rfl rfl rfl (fun c34 => ?_) (fun c34 => ?_)
 ·replace c34 : (_ : Int) = _ := c34
  refine RL.assign rfl ?_
  refine RL.nil ?_
  refine X.cond_t rfl ?_
  refine X.seq ?_
  refine X.region rfl ?_
  refine RL.move rfl ?_
  refine RL.assign rfl ?_
  refine RL.assign rfl ?_
  refine RL.assign rfl ?_
  refine RL.nil ?_
  refine X.ret ?_
  refine ret3 rfl ?_
  show (_ : Value) = _
  exact shape_eq (by unfold takeP; split <;> (try split) <;> omega) (by unfold layP; split <;> omega) (by unfold okP; (repeat' split) <;> first | rfl | exact (decide_eq_true (by omega)).symm | exact (decide_eq_false (by omega)).symm | omega)
 replace c34 : ¬ ((_ : Int) = _) := c34
 refine RL.assign rfl ?_
 refine RL.nil ?_
 refine X.cond_f rfl ?_
 refine X.seq ?_
 refine X.region rfl ?_
 refine RL.cmp_s rfl rfl rfl rfl (fun c35 => ?_) (fun c35 => ?_)
 ·replace c35 : (_ : Int) = _ := c35
  refine RL.assign rfl ?_
  refine RL.nil ?_
  refine X.cond_t rfl ?_
  refine X.seq ?_
  refine X.draw (by kernel_rfl) (by kernel_rfl) ?_
  refine RL.fieldAddr rfl fd77_1 rfl ?_
  refine RL.loadO rfl sc3 rfl rfl ?_
  refine RL.cmp_s rfl rfl rfl rfl (fun c36 => ?_) (fun c36 => ?_)
  ·replace c36 : (_ : Int) ≥ _ := c36
   refine RL.move rfl ?_
   refine RL.fieldAddr rfl fd77_2 rfl ?_
   refine RL.loadO rfl sc3 rfl rfl ?_
   refine RL.cmp_s rfl rfl rfl rfl (fun c37 => ?_) (fun c37 => ?_)
   ·replace c37 : (_ : Int) = _ := c37
    refine RL.pick_t rfl rfl ?_
    refine RL.assign rfl ?_
    refine RL.assign rfl ?_
    refine RL.assign rfl ?_
    refine RL.nil ?_
    refine X.ret ?_
    refine ret3 rfl ?_
    show (_ : Value) = _
    exact shape_eq (by unfold takeP; split <;> (try split) <;> omega) (by unfold layP; split <;> omega) (by unfold okP; (repeat' split) <;> first | rfl | exact (decide_eq_true (by omega)).symm | exact (decide_eq_false (by omega)).symm | omega)
   replace c37 : ¬ ((_ : Int) = _) := c37
   refine RL.pick_t rfl rfl ?_
   refine RL.assign rfl ?_
   refine RL.assign rfl ?_
   refine RL.assign rfl ?_
   refine RL.nil ?_
   refine X.ret ?_
   refine ret3 rfl ?_
   show (_ : Value) = _
   exact shape_eq (by unfold takeP; split <;> (try split) <;> omega) (by unfold layP; split <;> omega) (by unfold okP; (repeat' split) <;> first | rfl | exact (decide_eq_true (by omega)).symm | exact (decide_eq_false (by omega)).symm | omega)
  replace c36 : ¬ ((_ : Int) ≥ _) := c36
  refine RL.move rfl ?_
  refine RL.skip rfl ?_
  refine RL.skip rfl ?_
  refine RL.skip rfl ?_
  refine RL.pick_f rfl rfl ?_
  refine RL.assign rfl ?_
  refine RL.assign rfl ?_
  refine RL.assign rfl ?_
  refine RL.nil ?_
  refine X.ret ?_
  refine ret3 rfl ?_
  show (_ : Value) = _
  exact shape_eq (by unfold takeP; split <;> (try split) <;> omega) (by unfold layP; split <;> omega) (by unfold okP; (repeat' split) <;> first | rfl | exact (decide_eq_true (by omega)).symm | exact (decide_eq_false (by omega)).symm | omega)
 replace c35 : ¬ ((_ : Int) = _) := c35
 refine RL.assign rfl ?_
 refine RL.nil ?_
 refine X.cond_f rfl ?_
 refine X.seq ?_
 refine X.region rfl ?_
 refine RL.cmp_s rfl rfl rfl rfl (fun c38 => ?_) (fun c38 => ?_)
 ·replace c38 : (_ : Int) = _ := c38
  refine RL.assign rfl ?_
  refine RL.nil ?_
  refine X.cond_t rfl ?_
  refine X.seq ?_
  refine X.draw (by kernel_rfl) (by kernel_rfl) ?_
  refine RL.move rfl ?_
  refine RL.move rfl ?_
  refine RL.skip rfl ?_
  refine RL.skip rfl ?_
  refine RL.skip rfl ?_
  refine RL.pick_f rfl rfl ?_
  refine RL.move rfl ?_
  refine RL.skip rfl ?_
  refine RL.skip rfl ?_
  refine RL.skip rfl ?_
  refine RL.pick_f rfl rfl ?_
  refine RL.assign rfl ?_
  refine RL.assign rfl ?_
  refine RL.assign rfl ?_
  refine RL.nil ?_
  refine X.ret ?_
  refine ret3 rfl ?_
  show (_ : Value) = _
  exact shape_eq (by unfold takeP; split <;> (try split) <;> omega) (by unfold layP; split <;> omega) (by unfold okP; (repeat' split) <;> first | rfl | exact (decide_eq_true (by omega)).symm | exact (decide_eq_false (by omega)).symm | omega)
 replace c38 : ¬ ((_ : Int) = _) := c38
 refine RL.assign rfl ?_
 refine RL.nil ?_
 refine X.cond_f rfl ?_
 refine X.seq ?_
 refine X.seq ?_
 refine X.region rfl ?_
 refine RL.cmp_s rfl rfl rfl rfl (fun c39 => ?_) (fun c39 => ?_)
 ·replace c39 : (_ : Int) = _ := c39
  refine RL.assign rfl ?_
  refine RL.nil ?_
  refine X.cond_t rfl ?_
  refine X.skip ?_
  refine X.cond_t rfl ?_
  refine X.seq ?_
  refine X.draw (by kernel_rfl) (by kernel_rfl) ?_
  refine RL.move rfl ?_
  refine RL.move rfl ?_
  refine RL.skip rfl ?_
  refine RL.skip rfl ?_
  refine RL.skip rfl ?_
  refine RL.pick_f rfl rfl ?_
  refine RL.assign rfl ?_
  refine RL.assign rfl ?_
  refine RL.assign rfl ?_
  refine RL.nil ?_
  refine X.ret ?_
  refine ret3 rfl ?_
  show (_ : Value) = _
  exact shape_eq (by unfold takeP; split <;> (try split) <;> omega) (by unfold layP; split <;> omega) (by unfold okP; (repeat' split) <;> first | rfl | exact (decide_eq_true (by omega)).symm | exact (decide_eq_false (by omega)).symm | omega)
 replace c39 : ¬ ((_ : Int) = _) := c39
 refine RL.assign rfl ?_
 refine RL.nil ?_
 refine X.cond_f rfl ?_
 refine X.region rfl ?_
 refine RL.cmp_s rfl rfl rfl rfl (fun c40 => ?_) (fun c40 => ?_)
 ·replace c40 : (_ : Int) = _ := c40
  refine RL.assign rfl ?_
  refine RL.nil ?_
  refine X.cond_t rfl ?_
  refine X.seq ?_
  refine X.draw (by kernel_rfl) (by kernel_rfl) ?_
  refine RL.move rfl ?_
  refine RL.move rfl ?_
  refine RL.skip rfl ?_
  refine RL.skip rfl ?_
  refine RL.skip rfl ?_
  refine RL.pick_f rfl rfl ?_
  refine RL.assign rfl ?_
  refine RL.assign rfl ?_
  refine RL.assign rfl ?_
  refine RL.nil ?_
  refine X.ret ?_
  refine ret3 rfl ?_
  show (_ : Value) = _
  exact shape_eq (by unfold takeP; split <;> (try split) <;> omega) (by unfold layP; split <;> omega) (by unfold okP; (repeat' split) <;> first | rfl | exact (decide_eq_true (by omega)).symm | exact (decide_eq_false (by omega)).symm | omega)
 replace c40 : ¬ ((_ : Int) = _) := c40
 refine RL.assign rfl ?_
 refine RL.nil ?_
 refine X.cond_f rfl ?_
 refine X.skip ?_
 refine X.blk ?_
 refine X.seq ?_
 refine X.region rfl ?_
 refine RL.assign rfl ?_
 refine RL.assign rfl ?_
 refine RL.assign rfl ?_
 refine RL.nil ?_
 refine X.ret ?_
 refine ret3 rfl ?_
 show (_ : Value) = _
 exact shape_eq (by unfold takeP; split <;> (try split) <;> omega) (by unfold layP; split <;> omega) (by unfold okP; (repeat' split) <;> first | rfl | exact (decide_eq_true (by omega)).symm | exact (decide_eq_false (by omega)).symm | omega)
theorem f_shape (x : Ins) (s : Int) (w : World) : Ctr Try.prog 61 [.agg x.cells.toArray, .int .i64 s] w [] fun v _ => v = .tuple #[.int .i64 (takeP x.op), .int .i64 (layP x.op), .bool (okP x s)] := by
 refine Ctr.intro0 (n := 86) Try.func61 rfl Try.ntmps61 (Nat.le_of_ble_eq_true rfl) ?_
 refine X.seq ?_
 refine X.region rfl ?_
 refine RL.boxA rfl rfl rfl ?_
 intro b hb
 dsimp only at hb
 refine RL.assign rfl ?_
 refine RL.assign rfl ?_
 refine RL.assign rfl ?_
 refine RL.nil ?_
 refine X.seq ?_
 refine X.cut (fun ρ ds L => ds = [] ∧ Has ρ [(2, .pointer (some ⟨b, 0, none⟩)), (4, .int .i64 0), (5, .int .i64 0), (6, .bool false), (1, .int .i64 s), (7, .bool (decide (0 ≤ x.a ∧ x.a < s)))] ∧ L = [(b, cel 77 x.cells)]) ?_ ?_
 ·refine X.region rfl ?_
  refine RL.fieldAddr rfl fd77_1 rfl ?_
  refine RL.loadO rfl sc3 rfl rfl ?_
  refine RL.cmp_s rfl rfl rfl rfl (fun c1 => ?_) (fun c1 => ?_)
  ·replace c1 : (_ : Int) ≥ _ := c1
   refine RL.move rfl ?_
   refine RL.fieldAddr rfl fd77_1 rfl ?_
   refine RL.loadO rfl sc3 rfl rfl ?_
   refine RL.move rfl ?_
   refine RL.cmp_s rfl rfl rfl rfl (fun c2 => ?_) (fun c2 => ?_)
   ·replace c2 : (_ : Int) < _ := c2
    refine RL.pick_t rfl rfl ?_
    refine RL.assign rfl ?_
    refine RL.nil ?_
    refine X.hyp ⟨rfl, ⟨rfl, rfl, rfl, rfl, rfl, ?_, trivial⟩, rfl⟩
    first | exact congrArg Value.bool (decide_eq_true (by omega)).symm | exact congrArg Value.bool (decide_eq_false (by omega)).symm
   replace c2 : ¬ ((_ : Int) < _) := c2
   refine RL.pick_t rfl rfl ?_
   refine RL.assign rfl ?_
   refine RL.nil ?_
   refine X.hyp ⟨rfl, ⟨rfl, rfl, rfl, rfl, rfl, ?_, trivial⟩, rfl⟩
   first | exact congrArg Value.bool (decide_eq_true (by omega)).symm | exact congrArg Value.bool (decide_eq_false (by omega)).symm
  replace c1 : ¬ ((_ : Int) ≥ _) := c1
  refine RL.move rfl ?_
  refine RL.skip rfl ?_
  refine RL.skip rfl ?_
  refine RL.skip rfl ?_
  refine RL.skip rfl ?_
  refine RL.pick_f rfl rfl ?_
  refine RL.assign rfl ?_
  refine RL.nil ?_
  refine X.hyp ⟨rfl, ⟨rfl, rfl, rfl, rfl, rfl, ?_, trivial⟩, rfl⟩
  first | exact congrArg Value.bool (decide_eq_true (by omega)).symm | exact congrArg Value.bool (decide_eq_false (by omega)).symm
 rintro _ _ _ ⟨rfl, hρ, rfl⟩
 obtain ⟨base, rfl⟩ := hρ.base
 clear hρ
 by_cases h8 : 0 ≤ x.a ∧ x.a < s
 ·rw [decide_eq_true h8]
  refine X.seq ?_
  refine X.seq ?_
  refine X.region rfl ?_
  refine RL.fieldAddr rfl fd77_0 rfl ?_
  refine RL.loadO rfl sc3 rfl rfl ?_
  refine RL.nil ?_
  refine X.block ?_
  refine X.seq ?_
  refine X.region rfl ?_
  refine RL.cmp_s rfl rfl rfl rfl (fun c3 => ?_) (fun c3 => ?_)
  ·replace c3 : (_ : Int) = _ := c3
   refine RL.assign rfl ?_
   refine RL.nil ?_
   refine X.cond_t rfl ?_
   refine X.seq ?_
   refine X.draw (by kernel_rfl) (by kernel_rfl) ?_
   refine RL.fieldAddr rfl fd77_1 rfl ?_
   refine RL.loadO rfl sc3 rfl rfl ?_
   refine RL.cmp_s rfl rfl rfl rfl (fun c4 => ?_) (fun c4 => ?_)
   ·replace c4 : (_ : Int) ≥ _ := c4
    refine RL.move rfl ?_
    refine RL.fieldAddr rfl fd77_1 rfl ?_
    refine RL.loadO rfl sc3 rfl rfl ?_
    refine RL.cmp_s rfl rfl rfl rfl (fun c5 => ?_) (fun c5 => ?_)
    ·replace c5 : (_ : Int) ≤ _ := c5
     refine RL.pick_t rfl rfl ?_
     refine RL.move rfl ?_
     refine RL.fieldAddr rfl fd77_2 rfl ?_
     refine RL.loadO rfl sc3 rfl rfl ?_
     refine RL.cmp_s rfl rfl rfl rfl (fun c6 => ?_) (fun c6 => ?_)
     ·replace c6 : (_ : Int) = _ := c6
      refine RL.pick_t rfl rfl ?_
      refine RL.assign rfl ?_
      refine RL.assign rfl ?_
      refine RL.assign rfl ?_
      refine RL.nil ?_
      refine X.ret ?_
      refine ret3 rfl ?_
      show (_ : Value) = _
      exact shape_eq (by unfold takeP; split <;> (try split) <;> omega) (by unfold layP; split <;> omega) (by unfold okP; (repeat' split) <;> first | rfl | exact (decide_eq_true (by omega)).symm | exact (decide_eq_false (by omega)).symm | omega)
     replace c6 : ¬ ((_ : Int) = _) := c6
     refine RL.pick_t rfl rfl ?_
     refine RL.assign rfl ?_
     refine RL.assign rfl ?_
     refine RL.assign rfl ?_
     refine RL.nil ?_
     refine X.ret ?_
     refine ret3 rfl ?_
     show (_ : Value) = _
     exact shape_eq (by unfold takeP; split <;> (try split) <;> omega) (by unfold layP; split <;> omega) (by unfold okP; (repeat' split) <;> first | rfl | exact (decide_eq_true (by omega)).symm | exact (decide_eq_false (by omega)).symm | omega)
    replace c5 : ¬ ((_ : Int) ≤ _) := c5
    refine RL.pick_t rfl rfl ?_
    refine RL.move rfl ?_
    refine RL.skip rfl ?_
    refine RL.skip rfl ?_
    refine RL.skip rfl ?_
    refine RL.pick_f rfl rfl ?_
    refine RL.assign rfl ?_
    refine RL.assign rfl ?_
    refine RL.assign rfl ?_
    refine RL.nil ?_
    refine X.ret ?_
    refine ret3 rfl ?_
    show (_ : Value) = _
    exact shape_eq (by unfold takeP; split <;> (try split) <;> omega) (by unfold layP; split <;> omega) (by unfold okP; (repeat' split) <;> first | rfl | exact (decide_eq_true (by omega)).symm | exact (decide_eq_false (by omega)).symm | omega)
   replace c4 : ¬ ((_ : Int) ≥ _) := c4
   refine RL.move rfl ?_
   refine RL.skip rfl ?_
   refine RL.skip rfl ?_
   refine RL.skip rfl ?_
   refine RL.pick_f rfl rfl ?_
   refine RL.move rfl ?_
   refine RL.skip rfl ?_
   refine RL.skip rfl ?_
   refine RL.skip rfl ?_
   refine RL.pick_f rfl rfl ?_
   refine RL.assign rfl ?_
   refine RL.assign rfl ?_
   refine RL.assign rfl ?_
   refine RL.nil ?_
   refine X.ret ?_
   refine ret3 rfl ?_
   show (_ : Value) = _
   exact shape_eq (by unfold takeP; split <;> (try split) <;> omega) (by unfold layP; split <;> omega) (by unfold okP; (repeat' split) <;> first | rfl | exact (decide_eq_true (by omega)).symm | exact (decide_eq_false (by omega)).symm | omega)
  replace c3 : ¬ ((_ : Int) = _) := c3
  refine RL.assign rfl ?_
  refine RL.nil ?_
  refine X.cond_f rfl ?_
  refine X.seq ?_
  refine X.region rfl ?_
  refine RL.cmp_s rfl rfl rfl rfl (fun c7 => ?_) (fun c7 => ?_)
  ·replace c7 : (_ : Int) = _ := c7
   refine RL.assign rfl ?_
   refine RL.nil ?_
   refine X.cond_t rfl ?_
   refine X.seq ?_
   refine X.draw (by kernel_rfl) (by kernel_rfl) ?_
   refine RL.fieldAddr rfl fd77_1 rfl ?_
   refine RL.loadO rfl sc3 rfl rfl ?_
   refine RL.cmp_s rfl rfl rfl rfl (fun c8 => ?_) (fun c8 => ?_)
   ·replace c8 : (_ : Int) ≥ _ := c8
    refine RL.move rfl ?_
    refine RL.fieldAddr rfl fd77_2 rfl ?_
    refine RL.loadO rfl sc3 rfl rfl ?_
    refine RL.cmp_s rfl rfl rfl rfl (fun c9 => ?_) (fun c9 => ?_)
    ·replace c9 : (_ : Int) = _ := c9
     refine RL.pick_t rfl rfl ?_
     refine RL.assign rfl ?_
     refine RL.assign rfl ?_
     refine RL.assign rfl ?_
     refine RL.nil ?_
     refine X.ret ?_
     refine ret3 rfl ?_
     show (_ : Value) = _
     exact shape_eq (by unfold takeP; split <;> (try split) <;> omega) (by unfold layP; split <;> omega) (by unfold okP; (repeat' split) <;> first | rfl | exact (decide_eq_true (by omega)).symm | exact (decide_eq_false (by omega)).symm | omega)
    replace c9 : ¬ ((_ : Int) = _) := c9
    refine RL.pick_t rfl rfl ?_
    refine RL.assign rfl ?_
    refine RL.assign rfl ?_
    refine RL.assign rfl ?_
    refine RL.nil ?_
    refine X.ret ?_
    refine ret3 rfl ?_
    show (_ : Value) = _
    exact shape_eq (by unfold takeP; split <;> (try split) <;> omega) (by unfold layP; split <;> omega) (by unfold okP; (repeat' split) <;> first | rfl | exact (decide_eq_true (by omega)).symm | exact (decide_eq_false (by omega)).symm | omega)
   replace c8 : ¬ ((_ : Int) ≥ _) := c8
   refine RL.move rfl ?_
   refine RL.skip rfl ?_
   refine RL.skip rfl ?_
   refine RL.skip rfl ?_
   refine RL.pick_f rfl rfl ?_
   refine RL.assign rfl ?_
   refine RL.assign rfl ?_
   refine RL.assign rfl ?_
   refine RL.nil ?_
   refine X.ret ?_
   refine ret3 rfl ?_
   show (_ : Value) = _
   exact shape_eq (by unfold takeP; split <;> (try split) <;> omega) (by unfold layP; split <;> omega) (by unfold okP; (repeat' split) <;> first | rfl | exact (decide_eq_true (by omega)).symm | exact (decide_eq_false (by omega)).symm | omega)
  replace c7 : ¬ ((_ : Int) = _) := c7
  refine RL.assign rfl ?_
  refine RL.nil ?_
  refine X.cond_f rfl ?_
  refine X.seq ?_
  refine X.region rfl ?_
  refine RL.cmp_s rfl rfl rfl rfl (fun c10 => ?_) (fun c10 => ?_)
  ·replace c10 : (_ : Int) = _ := c10
   refine RL.assign rfl ?_
   refine RL.nil ?_
   refine X.cond_t rfl ?_
   refine X.seq ?_
   refine X.draw (by kernel_rfl) (by kernel_rfl) ?_
   refine RL.move rfl ?_
   refine RL.move rfl ?_
   refine RL.fieldAddr rfl fd77_2 rfl ?_
   refine RL.loadO rfl sc3 rfl rfl ?_
   refine RL.cmp_s rfl rfl rfl rfl (fun c11 => ?_) (fun c11 => ?_)
   ·replace c11 : (_ : Int) ≥ _ := c11
    refine RL.pick_t rfl rfl ?_
    refine RL.move rfl ?_
    refine RL.fieldAddr rfl fd77_2 rfl ?_
    refine RL.loadO rfl sc3 rfl rfl ?_
    refine RL.cmp_s rfl rfl rfl rfl (fun c12 => ?_) (fun c12 => ?_)
    ·replace c12 : (_ : Int) < _ := c12
     refine RL.pick_t rfl rfl ?_
     refine RL.assign rfl ?_
     refine RL.assign rfl ?_
     refine RL.assign rfl ?_
     refine RL.nil ?_
     refine X.ret ?_
     refine ret3 rfl ?_
     show (_ : Value) = _
     exact shape_eq (by unfold takeP; split <;> (try split) <;> omega) (by unfold layP; split <;> omega) (by unfold okP; (repeat' split) <;> first | rfl | exact (decide_eq_true (by omega)).symm | exact (decide_eq_false (by omega)).symm | omega)
    replace c12 : ¬ ((_ : Int) < _) := c12
    refine RL.pick_t rfl rfl ?_
    refine RL.assign rfl ?_
    refine RL.assign rfl ?_
    refine RL.assign rfl ?_
    refine RL.nil ?_
    refine X.ret ?_
    refine ret3 rfl ?_
    show (_ : Value) = _
    exact shape_eq (by unfold takeP; split <;> (try split) <;> omega) (by unfold layP; split <;> omega) (by unfold okP; (repeat' split) <;> first | rfl | exact (decide_eq_true (by omega)).symm | exact (decide_eq_false (by omega)).symm | omega)
   replace c11 : ¬ ((_ : Int) ≥ _) := c11
   refine RL.pick_t rfl rfl ?_
   refine RL.move rfl ?_
   refine RL.skip rfl ?_
   refine RL.skip rfl ?_
   refine RL.skip rfl ?_
   refine RL.pick_f rfl rfl ?_
   refine RL.assign rfl ?_
   refine RL.assign rfl ?_
   refine RL.assign rfl ?_
   refine RL.nil ?_
   refine X.ret ?_
   refine ret3 rfl ?_
   show (_ : Value) = _
   exact shape_eq (by unfold takeP; split <;> (try split) <;> omega) (by unfold layP; split <;> omega) (by unfold okP; (repeat' split) <;> first | rfl | exact (decide_eq_true (by omega)).symm | exact (decide_eq_false (by omega)).symm | omega)
  replace c10 : ¬ ((_ : Int) = _) := c10
  refine RL.assign rfl ?_
  refine RL.nil ?_
  refine X.cond_f rfl ?_
  refine X.seq ?_
  refine X.seq ?_
  refine X.region rfl ?_
  refine RL.cmp_s rfl rfl rfl rfl (fun c13 => ?_) (fun c13 => ?_)
  ·replace c13 : (_ : Int) = _ := c13
   refine RL.assign rfl ?_
   refine RL.nil ?_
   refine X.cond_t rfl ?_
   refine X.skip ?_
   refine X.cond_t rfl ?_
   refine X.seq ?_
   refine X.draw (by kernel_rfl) (by kernel_rfl) ?_
   refine RL.move rfl ?_
   refine RL.move rfl ?_
   refine RL.fieldAddr rfl fd77_2 rfl ?_
   refine RL.loadO rfl sc3 rfl rfl ?_
   refine RL.cmp_s rfl rfl rfl rfl (fun c14 => ?_) (fun c14 => ?_)
   ·replace c14 : (_ : Int) = _ := c14
    refine RL.pick_t rfl rfl ?_
    refine RL.assign rfl ?_
    refine RL.assign rfl ?_
    refine RL.assign rfl ?_
    refine RL.nil ?_
    refine X.ret ?_
    refine ret3 rfl ?_
    show (_ : Value) = _
    exact shape_eq (by unfold takeP; split <;> (try split) <;> omega) (by unfold layP; split <;> omega) (by unfold okP; (repeat' split) <;> first | rfl | exact (decide_eq_true (by omega)).symm | exact (decide_eq_false (by omega)).symm | omega)
   replace c14 : ¬ ((_ : Int) = _) := c14
   refine RL.pick_t rfl rfl ?_
   refine RL.assign rfl ?_
   refine RL.assign rfl ?_
   refine RL.assign rfl ?_
   refine RL.nil ?_
   refine X.ret ?_
   refine ret3 rfl ?_
   show (_ : Value) = _
   exact shape_eq (by unfold takeP; split <;> (try split) <;> omega) (by unfold layP; split <;> omega) (by unfold okP; (repeat' split) <;> first | rfl | exact (decide_eq_true (by omega)).symm | exact (decide_eq_false (by omega)).symm | omega)
  replace c13 : ¬ ((_ : Int) = _) := c13
  refine RL.assign rfl ?_
  refine RL.nil ?_
  refine X.cond_f rfl ?_
  refine X.region rfl ?_
  refine RL.cmp_s rfl rfl rfl rfl (fun c15 => ?_) (fun c15 => ?_)
  ·replace c15 : (_ : Int) = _ := c15
   refine RL.assign rfl ?_
   refine RL.nil ?_
   refine X.cond_t rfl ?_
   refine X.seq ?_
   refine X.draw (by kernel_rfl) (by kernel_rfl) ?_
   refine RL.move rfl ?_
   refine RL.move rfl ?_
   refine RL.fieldAddr rfl fd77_2 rfl ?_
   refine RL.loadO rfl sc3 rfl rfl ?_
   refine RL.cmp_s rfl rfl rfl rfl (fun c16 => ?_) (fun c16 => ?_)
   ·replace c16 : (_ : Int) = _ := c16
    refine RL.pick_t rfl rfl ?_
    refine RL.assign rfl ?_
    refine RL.assign rfl ?_
    refine RL.assign rfl ?_
    refine RL.nil ?_
    refine X.ret ?_
    refine ret3 rfl ?_
    show (_ : Value) = _
    exact shape_eq (by unfold takeP; split <;> (try split) <;> omega) (by unfold layP; split <;> omega) (by unfold okP; (repeat' split) <;> first | rfl | exact (decide_eq_true (by omega)).symm | exact (decide_eq_false (by omega)).symm | omega)
   replace c16 : ¬ ((_ : Int) = _) := c16
   refine RL.pick_t rfl rfl ?_
   refine RL.assign rfl ?_
   refine RL.assign rfl ?_
   refine RL.assign rfl ?_
   refine RL.nil ?_
   refine X.ret ?_
   refine ret3 rfl ?_
   show (_ : Value) = _
   exact shape_eq (by unfold takeP; split <;> (try split) <;> omega) (by unfold layP; split <;> omega) (by unfold okP; (repeat' split) <;> first | rfl | exact (decide_eq_true (by omega)).symm | exact (decide_eq_false (by omega)).symm | omega)
  replace c15 : ¬ ((_ : Int) = _) := c15
  refine RL.assign rfl ?_
  refine RL.nil ?_
  refine X.cond_f rfl ?_
  refine X.seq ?_
  refine X.seq ?_
  refine X.region rfl ?_
  refine RL.cmp_s rfl rfl rfl rfl (fun c17 => ?_) (fun c17 => ?_)
  ·replace c17 : (_ : Int) = _ := c17
   refine RL.assign rfl ?_
   refine RL.nil ?_
   refine X.cond_t rfl ?_
   refine X.skip ?_
   refine X.cond_t rfl ?_
   refine X.region rfl ?_
   refine RL.assign rfl ?_
   refine RL.nil ?_
   refine X.blk ?_
   refine X.seq ?_
   refine X.draw (by kernel_rfl) (by kernel_rfl) ?_
   refine RL.move rfl ?_
   refine RL.move rfl ?_
   refine RL.fieldAddr rfl fd77_1 rfl ?_
   refine RL.loadO rfl sc3 rfl rfl ?_
   refine RL.cmp_s rfl rfl rfl rfl (fun c18 => ?_) (fun c18 => ?_)
   ·replace c18 : (_ : Int) = _ := c18
    refine RL.move rfl ?_
    refine RL.fieldAddr rfl fd77_2 rfl ?_
    refine RL.loadO rfl sc3 rfl rfl ?_
    refine RL.cmp_s rfl rfl rfl rfl (fun c19 => ?_) (fun c19 => ?_)
    ·replace c19 : (_ : Int) = _ := c19
     refine RL.pick_t rfl rfl ?_
     refine RL.assign rfl ?_
     refine RL.assign rfl ?_
     refine RL.assign rfl ?_
     refine RL.nil ?_
     refine X.ret ?_
     refine ret3 rfl ?_
     show (_ : Value) = _
     exact shape_eq (by unfold takeP; split <;> (try split) <;> omega) (by unfold layP; split <;> omega) (by unfold okP; (repeat' split) <;> first | rfl | exact (decide_eq_true (by omega)).symm | exact (decide_eq_false (by omega)).symm | omega)
    replace c19 : ¬ ((_ : Int) = _) := c19
    refine RL.pick_t rfl rfl ?_
    refine RL.assign rfl ?_
    refine RL.assign rfl ?_
    refine RL.assign rfl ?_
    refine RL.nil ?_
    refine X.ret ?_
    refine ret3 rfl ?_
    show (_ : Value) = _
    exact shape_eq (by unfold takeP; split <;> (try split) <;> omega) (by unfold layP; split <;> omega) (by unfold okP; (repeat' split) <;> first | rfl | exact (decide_eq_true (by omega)).symm | exact (decide_eq_false (by omega)).symm | omega)
   replace c18 : ¬ ((_ : Int) = _) := c18
   refine RL.move rfl ?_
   refine RL.skip rfl ?_
   refine RL.skip rfl ?_
   refine RL.skip rfl ?_
   refine RL.pick_f rfl rfl ?_
   refine RL.assign rfl ?_
   refine RL.assign rfl ?_
   refine RL.assign rfl ?_
   refine RL.nil ?_
   refine X.ret ?_
   refine ret3 rfl ?_
   show (_ : Value) = _
   exact shape_eq (by unfold takeP; split <;> (try split) <;> omega) (by unfold layP; split <;> omega) (by unfold okP; (repeat' split) <;> first | rfl | exact (decide_eq_true (by omega)).symm | exact (decide_eq_false (by omega)).symm | omega)
  replace c17 : ¬ ((_ : Int) = _) := c17
  refine RL.assign rfl ?_
  refine RL.nil ?_
  refine X.cond_f rfl ?_
  refine X.region rfl ?_
  refine RL.cmp_s rfl rfl rfl rfl (fun c20 => ?_) (fun c20 => ?_)
  ·replace c20 : (_ : Int) = _ := c20
   refine RL.assign rfl ?_
   refine RL.nil ?_
   refine X.cond_t rfl ?_
   refine X.region rfl ?_
   refine RL.assign rfl ?_
   refine RL.nil ?_
   refine X.blk ?_
   refine X.seq ?_
   refine X.draw (by kernel_rfl) (by kernel_rfl) ?_
   refine RL.move rfl ?_
   refine RL.move rfl ?_
   refine RL.fieldAddr rfl fd77_1 rfl ?_
   refine RL.loadO rfl sc3 rfl rfl ?_
   refine RL.cmp_s rfl rfl rfl rfl (fun c21 => ?_) (fun c21 => ?_)
   ·replace c21 : (_ : Int) = _ := c21
    refine RL.move rfl ?_
    refine RL.fieldAddr rfl fd77_2 rfl ?_
    refine RL.loadO rfl sc3 rfl rfl ?_
    refine RL.cmp_s rfl rfl rfl rfl (fun c22 => ?_) (fun c22 => ?_)
    ·replace c22 : (_ : Int) = _ := c22
     refine RL.pick_t rfl rfl ?_
     refine RL.assign rfl ?_
     refine RL.assign rfl ?_
     refine RL.assign rfl ?_
     refine RL.nil ?_
     refine X.ret ?_
     refine ret3 rfl ?_
     show (_ : Value) = _
     exact shape_eq (by unfold takeP; split <;> (try split) <;> omega) (by unfold layP; split <;> omega) (by unfold okP; (repeat' split) <;> first | rfl | exact (decide_eq_true (by omega)).symm | exact (decide_eq_false (by omega)).symm | omega)
    replace c22 : ¬ ((_ : Int) = _) := c22
    refine RL.pick_t rfl rfl ?_
    refine RL.assign rfl ?_
    refine RL.assign rfl ?_
    refine RL.assign rfl ?_
    refine RL.nil ?_
    refine X.ret ?_
    refine ret3 rfl ?_
    show (_ : Value) = _
    exact shape_eq (by unfold takeP; split <;> (try split) <;> omega) (by unfold layP; split <;> omega) (by unfold okP; (repeat' split) <;> first | rfl | exact (decide_eq_true (by omega)).symm | exact (decide_eq_false (by omega)).symm | omega)
   replace c21 : ¬ ((_ : Int) = _) := c21
   refine RL.move rfl ?_
   refine RL.skip rfl ?_
   refine RL.skip rfl ?_
   refine RL.skip rfl ?_
   refine RL.pick_f rfl rfl ?_
   refine RL.assign rfl ?_
   refine RL.assign rfl ?_
   refine RL.assign rfl ?_
   refine RL.nil ?_
   refine X.ret ?_
   refine ret3 rfl ?_
   show (_ : Value) = _
   exact shape_eq (by unfold takeP; split <;> (try split) <;> omega) (by unfold layP; split <;> omega) (by unfold okP; (repeat' split) <;> first | rfl | exact (decide_eq_true (by omega)).symm | exact (decide_eq_false (by omega)).symm | omega)
  replace c20 : ¬ ((_ : Int) = _) := c20
  refine RL.assign rfl ?_
  refine RL.nil ?_
  refine X.cond_f rfl ?_
  refine X.seq ?_
  refine X.seq ?_
  refine X.region rfl ?_
  refine RL.cmp_s rfl rfl rfl rfl (fun c23 => ?_) (fun c23 => ?_)
  ·replace c23 : (_ : Int) = _ := c23
   refine RL.assign rfl ?_
   refine RL.nil ?_
   refine X.cond_t rfl ?_
   refine X.skip ?_
   refine X.cond_t rfl ?_
   refine X.region rfl ?_
   refine RL.assign rfl ?_
   refine RL.nil ?_
   refine X.blk ?_
   refine X.seq ?_
   refine X.draw (by kernel_rfl) (by kernel_rfl) ?_
   refine RL.move rfl ?_
   refine RL.move rfl ?_
   refine RL.fieldAddr rfl fd77_1 rfl ?_
   refine RL.loadO rfl sc3 rfl rfl ?_
   refine RL.cmp_s rfl rfl rfl rfl (fun c24 => ?_) (fun c24 => ?_)
   ·replace c24 : (_ : Int) = _ := c24
    refine RL.move rfl ?_
    refine RL.fieldAddr rfl fd77_2 rfl ?_
    refine RL.loadO rfl sc3 rfl rfl ?_
    refine RL.cmp_s rfl rfl rfl rfl (fun c25 => ?_) (fun c25 => ?_)
    ·replace c25 : (_ : Int) = _ := c25
     refine RL.pick_t rfl rfl ?_
     refine RL.assign rfl ?_
     refine RL.assign rfl ?_
     refine RL.assign rfl ?_
     refine RL.nil ?_
     refine X.ret ?_
     refine ret3 rfl ?_
     show (_ : Value) = _
     exact shape_eq (by unfold takeP; split <;> (try split) <;> omega) (by unfold layP; split <;> omega) (by unfold okP; (repeat' split) <;> first | rfl | exact (decide_eq_true (by omega)).symm | exact (decide_eq_false (by omega)).symm | omega)
    replace c25 : ¬ ((_ : Int) = _) := c25
    refine RL.pick_t rfl rfl ?_
    refine RL.assign rfl ?_
    refine RL.assign rfl ?_
    refine RL.assign rfl ?_
    refine RL.nil ?_
    refine X.ret ?_
    refine ret3 rfl ?_
    show (_ : Value) = _
    exact shape_eq (by unfold takeP; split <;> (try split) <;> omega) (by unfold layP; split <;> omega) (by unfold okP; (repeat' split) <;> first | rfl | exact (decide_eq_true (by omega)).symm | exact (decide_eq_false (by omega)).symm | omega)
   replace c24 : ¬ ((_ : Int) = _) := c24
   refine RL.move rfl ?_
   refine RL.skip rfl ?_
   refine RL.skip rfl ?_
   refine RL.skip rfl ?_
   refine RL.pick_f rfl rfl ?_
   refine RL.assign rfl ?_
   refine RL.assign rfl ?_
   refine RL.assign rfl ?_
   refine RL.nil ?_
   refine X.ret ?_
   refine ret3 rfl ?_
   show (_ : Value) = _
   exact shape_eq (by unfold takeP; split <;> (try split) <;> omega) (by unfold layP; split <;> omega) (by unfold okP; (repeat' split) <;> first | rfl | exact (decide_eq_true (by omega)).symm | exact (decide_eq_false (by omega)).symm | omega)
  replace c23 : ¬ ((_ : Int) = _) := c23
  refine RL.assign rfl ?_
  refine RL.nil ?_
  refine X.cond_f rfl ?_
  refine X.region rfl ?_
  refine RL.cmp_s rfl rfl rfl rfl (fun c26 => ?_) (fun c26 => ?_)
  ·replace c26 : (_ : Int) = _ := c26
   refine RL.assign rfl ?_
   refine RL.nil ?_
   refine X.cond_t rfl ?_
   refine X.region rfl ?_
   refine RL.assign rfl ?_
   refine RL.nil ?_
   refine X.blk ?_
   refine X.seq ?_
   refine X.draw (by kernel_rfl) (by kernel_rfl) ?_
   refine RL.move rfl ?_
   refine RL.move rfl ?_
   refine RL.fieldAddr rfl fd77_1 rfl ?_
   refine RL.loadO rfl sc3 rfl rfl ?_
   refine RL.cmp_s rfl rfl rfl rfl (fun c27 => ?_) (fun c27 => ?_)
   ·replace c27 : (_ : Int) = _ := c27
    refine RL.move rfl ?_
    refine RL.fieldAddr rfl fd77_2 rfl ?_
    refine RL.loadO rfl sc3 rfl rfl ?_
    refine RL.cmp_s rfl rfl rfl rfl (fun c28 => ?_) (fun c28 => ?_)
    ·replace c28 : (_ : Int) = _ := c28
     refine RL.pick_t rfl rfl ?_
     refine RL.assign rfl ?_
     refine RL.assign rfl ?_
     refine RL.assign rfl ?_
     refine RL.nil ?_
     refine X.ret ?_
     refine ret3 rfl ?_
     show (_ : Value) = _
     exact shape_eq (by unfold takeP; split <;> (try split) <;> omega) (by unfold layP; split <;> omega) (by unfold okP; (repeat' split) <;> first | rfl | exact (decide_eq_true (by omega)).symm | exact (decide_eq_false (by omega)).symm | omega)
    replace c28 : ¬ ((_ : Int) = _) := c28
    refine RL.pick_t rfl rfl ?_
    refine RL.assign rfl ?_
    refine RL.assign rfl ?_
    refine RL.assign rfl ?_
    refine RL.nil ?_
    refine X.ret ?_
    refine ret3 rfl ?_
    show (_ : Value) = _
    exact shape_eq (by unfold takeP; split <;> (try split) <;> omega) (by unfold layP; split <;> omega) (by unfold okP; (repeat' split) <;> first | rfl | exact (decide_eq_true (by omega)).symm | exact (decide_eq_false (by omega)).symm | omega)
   replace c27 : ¬ ((_ : Int) = _) := c27
   refine RL.move rfl ?_
   refine RL.skip rfl ?_
   refine RL.skip rfl ?_
   refine RL.skip rfl ?_
   refine RL.pick_f rfl rfl ?_
   refine RL.assign rfl ?_
   refine RL.assign rfl ?_
   refine RL.assign rfl ?_
   refine RL.nil ?_
   refine X.ret ?_
   refine ret3 rfl ?_
   show (_ : Value) = _
   exact shape_eq (by unfold takeP; split <;> (try split) <;> omega) (by unfold layP; split <;> omega) (by unfold okP; (repeat' split) <;> first | rfl | exact (decide_eq_true (by omega)).symm | exact (decide_eq_false (by omega)).symm | omega)
  replace c26 : ¬ ((_ : Int) = _) := c26
  refine RL.assign rfl ?_
  refine RL.nil ?_
  refine X.cond_f rfl ?_
  refine X.seq ?_
  refine X.region rfl ?_
  refine RL.cmp_s rfl rfl rfl rfl (fun c29 => ?_) (fun c29 => ?_)
  ·replace c29 : (_ : Int) = _ := c29
   refine RL.assign rfl ?_
   refine RL.nil ?_
   refine X.cond_t rfl ?_
   refine X.region rfl ?_
   refine RL.assign rfl ?_
   refine RL.assign rfl ?_
   refine RL.nil ?_
   refine X.blk ?_
   refine X.seq ?_
   refine X.draw (by kernel_rfl) (by kernel_rfl) ?_
   refine RL.move rfl ?_
   refine RL.move rfl ?_
   refine RL.fieldAddr rfl fd77_1 rfl ?_
   refine RL.loadO rfl sc3 rfl rfl ?_
   refine RL.cmp_s rfl rfl rfl rfl (fun c30 => ?_) (fun c30 => ?_)
   ·replace c30 : (_ : Int) = _ := c30
    refine RL.move rfl ?_
    refine RL.fieldAddr rfl fd77_2 rfl ?_
    refine RL.loadO rfl sc3 rfl rfl ?_
    refine RL.cmp_s rfl rfl rfl rfl (fun c31 => ?_) (fun c31 => ?_)
    ·replace c31 : (_ : Int) = _ := c31
     refine RL.pick_t rfl rfl ?_
     refine RL.assign rfl ?_
     refine RL.assign rfl ?_
     refine RL.assign rfl ?_
     refine RL.nil ?_
     refine X.ret ?_
     refine ret3 rfl ?_
     show (_ : Value) = _
     exact shape_eq (by unfold takeP; split <;> (try split) <;> omega) (by unfold layP; split <;> omega) (by unfold okP; (repeat' split) <;> first | rfl | exact (decide_eq_true (by omega)).symm | exact (decide_eq_false (by omega)).symm | omega)
    replace c31 : ¬ ((_ : Int) = _) := c31
    refine RL.pick_t rfl rfl ?_
    refine RL.assign rfl ?_
    refine RL.assign rfl ?_
    refine RL.assign rfl ?_
    refine RL.nil ?_
    refine X.ret ?_
    refine ret3 rfl ?_
    show (_ : Value) = _
    exact shape_eq (by unfold takeP; split <;> (try split) <;> omega) (by unfold layP; split <;> omega) (by unfold okP; (repeat' split) <;> first | rfl | exact (decide_eq_true (by omega)).symm | exact (decide_eq_false (by omega)).symm | omega)
   replace c30 : ¬ ((_ : Int) = _) := c30
   refine RL.move rfl ?_
   refine RL.skip rfl ?_
   refine RL.skip rfl ?_
   refine RL.skip rfl ?_
   refine RL.pick_f rfl rfl ?_
   refine RL.assign rfl ?_
   refine RL.assign rfl ?_
   refine RL.assign rfl ?_
   refine RL.nil ?_
   refine X.ret ?_
   refine ret3 rfl ?_
   show (_ : Value) = _
   exact shape_eq (by unfold takeP; split <;> (try split) <;> omega) (by unfold layP; split <;> omega) (by unfold okP; (repeat' split) <;> first | rfl | exact (decide_eq_true (by omega)).symm | exact (decide_eq_false (by omega)).symm | omega)
  replace c29 : ¬ ((_ : Int) = _) := c29
  refine RL.assign rfl ?_
  refine RL.nil ?_
  refine X.cond_f rfl ?_
  refine X.seq ?_
  refine X.region rfl ?_
  refine RL.cmp_s rfl rfl rfl rfl (fun c32 => ?_) (fun c32 => ?_)
  ·replace c32 : (_ : Int) = _ := c32
   refine RL.assign rfl ?_
   refine RL.nil ?_
   refine X.cond_t rfl ?_
   refine X.region rfl ?_
   refine RL.assign rfl ?_
   refine RL.assign rfl ?_
   refine RL.nil ?_
   refine X.blk ?_
   refine X.seq ?_
   refine X.draw (by kernel_rfl) (by kernel_rfl) ?_
   refine RL.move rfl ?_
   refine RL.move rfl ?_
   refine RL.fieldAddr rfl fd77_1 rfl ?_
   refine RL.loadO rfl sc3 rfl rfl ?_
   refine RL.cmp_s rfl rfl rfl rfl (fun c33 => ?_) (fun c33 => ?_)
   ·replace c33 : (_ : Int) = _ := c33
    refine RL.move rfl ?_
    refine RL.fieldAddr rfl fd77_2 rfl ?_
    refine RL.loadO rfl sc3 rfl rfl ?_
    refine RL.cmp_s rfl rfl rfl rfl (fun c34 => ?_) (fun c34 => ?_)
    ·replace c34 : (_ : Int) = _ := c34
     refine RL.pick_t rfl rfl ?_
     refine RL.assign rfl ?_
     refine RL.assign rfl ?_
     refine RL.assign rfl ?_
     refine RL.nil ?_
     refine X.ret ?_
     refine ret3 rfl ?_
     show (_ : Value) = _
     exact shape_eq (by unfold takeP; split <;> (try split) <;> omega) (by unfold layP; split <;> omega) (by unfold okP; (repeat' split) <;> first | rfl | exact (decide_eq_true (by omega)).symm | exact (decide_eq_false (by omega)).symm | omega)
    replace c34 : ¬ ((_ : Int) = _) := c34
    refine RL.pick_t rfl rfl ?_
    refine RL.assign rfl ?_
    refine RL.assign rfl ?_
    refine RL.assign rfl ?_
    refine RL.nil ?_
    refine X.ret ?_
    refine ret3 rfl ?_
    show (_ : Value) = _
    exact shape_eq (by unfold takeP; split <;> (try split) <;> omega) (by unfold layP; split <;> omega) (by unfold okP; (repeat' split) <;> first | rfl | exact (decide_eq_true (by omega)).symm | exact (decide_eq_false (by omega)).symm | omega)
   replace c33 : ¬ ((_ : Int) = _) := c33
   refine RL.move rfl ?_
   refine RL.skip rfl ?_
   refine RL.skip rfl ?_
   refine RL.skip rfl ?_
   refine RL.pick_f rfl rfl ?_
   refine RL.assign rfl ?_
   refine RL.assign rfl ?_
   refine RL.assign rfl ?_
   refine RL.nil ?_
   refine X.ret ?_
   refine ret3 rfl ?_
   show (_ : Value) = _
   exact shape_eq (by unfold takeP; split <;> (try split) <;> omega) (by unfold layP; split <;> omega) (by unfold okP; (repeat' split) <;> first | rfl | exact (decide_eq_true (by omega)).symm | exact (decide_eq_false (by omega)).symm | omega)
  replace c32 : ¬ ((_ : Int) = _) := c32
  refine RL.assign rfl ?_
  refine RL.nil ?_
  refine X.cond_f rfl ?_
  refine X.seq ?_
  refine X.region rfl ?_
  refine RL.assign rfl ?_
  refine RL.assign rfl ?_
  refine RL.assign rfl ?_
  refine RL.nil ?_
  refine X.ret ?_
  refine ret3 rfl ?_
  show (_ : Value) = _
  exact shape_eq (by unfold takeP; split <;> (try split) <;> omega) (by unfold layP; split <;> omega) (by unfold okP; (repeat' split) <;> first | rfl | exact (decide_eq_true (by omega)).symm | exact (decide_eq_false (by omega)).symm | omega)
 rw [decide_eq_false h8]
 refine X.seq ?_
 refine X.seq ?_
 refine X.region rfl ?_
 refine RL.fieldAddr rfl fd77_0 rfl ?_
 refine RL.loadO rfl sc3 rfl rfl ?_
 refine RL.nil ?_
 refine X.block ?_
 refine X.seq ?_
 refine X.region rfl ?_
 refine RL.cmp_s rfl rfl rfl rfl (fun c35 => ?_) (fun c35 => ?_)
 ·replace c35 : (_ : Int) = _ := c35
  refine RL.assign rfl ?_
  refine RL.nil ?_
  refine X.cond_t rfl ?_
  refine X.seq ?_
  refine X.draw (by kernel_rfl) (by kernel_rfl) ?_
  refine RL.fieldAddr rfl fd77_1 rfl ?_
  refine RL.loadO rfl sc3 rfl rfl ?_
  refine RL.cmp_s rfl rfl rfl rfl (fun c36 => ?_) (fun c36 => ?_)
  ·replace c36 : (_ : Int) ≥ _ := c36
   refine RL.move rfl ?_
   refine RL.fieldAddr rfl fd77_1 rfl ?_
   refine RL.loadO rfl sc3 rfl rfl ?_
   refine RL.cmp_s rfl rfl rfl rfl (fun c37 => ?_) (fun c37 => ?_)
   ·replace c37 : (_ : Int) ≤ _ := c37
    refine RL.pick_t rfl rfl ?_
    refine RL.move rfl ?_
    refine RL.fieldAddr rfl fd77_2 rfl ?_
    refine RL.loadO rfl sc3 rfl rfl ?_
    refine RL.cmp_s rfl rfl rfl rfl (fun c38 => ?_) (fun c38 => ?_)
    ·replace c38 : (_ : Int) = _ := c38
     refine RL.pick_t rfl rfl ?_
     refine RL.assign rfl ?_
     refine RL.assign rfl ?_
     refine RL.assign rfl ?_
     refine RL.nil ?_
     refine X.ret ?_
     refine ret3 rfl ?_
     show (_ : Value) = _
     exact shape_eq (by unfold takeP; split <;> (try split) <;> omega) (by unfold layP; split <;> omega) (by unfold okP; (repeat' split) <;> first | rfl | exact (decide_eq_true (by omega)).symm | exact (decide_eq_false (by omega)).symm | omega)
    replace c38 : ¬ ((_ : Int) = _) := c38
    refine RL.pick_t rfl rfl ?_
    refine RL.assign rfl ?_
    refine RL.assign rfl ?_
    refine RL.assign rfl ?_
    refine RL.nil ?_
    refine X.ret ?_
    refine ret3 rfl ?_
    show (_ : Value) = _
    exact shape_eq (by unfold takeP; split <;> (try split) <;> omega) (by unfold layP; split <;> omega) (by unfold okP; (repeat' split) <;> first | rfl | exact (decide_eq_true (by omega)).symm | exact (decide_eq_false (by omega)).symm | omega)
   replace c37 : ¬ ((_ : Int) ≤ _) := c37
   refine RL.pick_t rfl rfl ?_
   refine RL.move rfl ?_
   refine RL.skip rfl ?_
   refine RL.skip rfl ?_
   refine RL.skip rfl ?_
   refine RL.pick_f rfl rfl ?_
   refine RL.assign rfl ?_
   refine RL.assign rfl ?_
   refine RL.assign rfl ?_
   refine RL.nil ?_
   refine X.ret ?_
   refine ret3 rfl ?_
   show (_ : Value) = _
   exact shape_eq (by unfold takeP; split <;> (try split) <;> omega) (by unfold layP; split <;> omega) (by unfold okP; (repeat' split) <;> first | rfl | exact (decide_eq_true (by omega)).symm | exact (decide_eq_false (by omega)).symm | omega)
  replace c36 : ¬ ((_ : Int) ≥ _) := c36
  refine RL.move rfl ?_
  refine RL.skip rfl ?_
  refine RL.skip rfl ?_
  refine RL.skip rfl ?_
  refine RL.pick_f rfl rfl ?_
  refine RL.move rfl ?_
  refine RL.skip rfl ?_
  refine RL.skip rfl ?_
  refine RL.skip rfl ?_
  refine RL.pick_f rfl rfl ?_
  refine RL.assign rfl ?_
  refine RL.assign rfl ?_
  refine RL.assign rfl ?_
  refine RL.nil ?_
  refine X.ret ?_
  refine ret3 rfl ?_
  show (_ : Value) = _
  exact shape_eq (by unfold takeP; split <;> (try split) <;> omega) (by unfold layP; split <;> omega) (by unfold okP; (repeat' split) <;> first | rfl | exact (decide_eq_true (by omega)).symm | exact (decide_eq_false (by omega)).symm | omega)
 replace c35 : ¬ ((_ : Int) = _) := c35
 refine RL.assign rfl ?_
 refine RL.nil ?_
 refine X.cond_f rfl ?_
 refine X.seq ?_
 refine X.region rfl ?_
 refine RL.cmp_s rfl rfl rfl rfl (fun c39 => ?_) (fun c39 => ?_)
 ·replace c39 : (_ : Int) = _ := c39
  refine RL.assign rfl ?_
  refine RL.nil ?_
  refine X.cond_t rfl ?_
  refine X.seq ?_
  refine X.draw (by kernel_rfl) (by kernel_rfl) ?_
  refine RL.fieldAddr rfl fd77_1 rfl ?_
  refine RL.loadO rfl sc3 rfl rfl ?_
  refine RL.cmp_s rfl rfl rfl rfl (fun c40 => ?_) (fun c40 => ?_)
  ·replace c40 : (_ : Int) ≥ _ := c40
   refine RL.move rfl ?_
   refine RL.fieldAddr rfl fd77_2 rfl ?_
   refine RL.loadO rfl sc3 rfl rfl ?_
   refine RL.cmp_s rfl rfl rfl rfl (fun c41 => ?_) (fun c41 => ?_)
   ·replace c41 : (_ : Int) = _ := c41
    refine RL.pick_t rfl rfl ?_
    refine RL.assign rfl ?_
    refine RL.assign rfl ?_
    refine RL.assign rfl ?_
    refine RL.nil ?_
    refine X.ret ?_
    refine ret3 rfl ?_
    show (_ : Value) = _
    exact shape_eq (by unfold takeP; split <;> (try split) <;> omega) (by unfold layP; split <;> omega) (by unfold okP; (repeat' split) <;> first | rfl | exact (decide_eq_true (by omega)).symm | exact (decide_eq_false (by omega)).symm | omega)
   replace c41 : ¬ ((_ : Int) = _) := c41
   refine RL.pick_t rfl rfl ?_
   refine RL.assign rfl ?_
   refine RL.assign rfl ?_
   refine RL.assign rfl ?_
   refine RL.nil ?_
   refine X.ret ?_
   refine ret3 rfl ?_
   show (_ : Value) = _
   exact shape_eq (by unfold takeP; split <;> (try split) <;> omega) (by unfold layP; split <;> omega) (by unfold okP; (repeat' split) <;> first | rfl | exact (decide_eq_true (by omega)).symm | exact (decide_eq_false (by omega)).symm | omega)
  replace c40 : ¬ ((_ : Int) ≥ _) := c40
  refine RL.move rfl ?_
  refine RL.skip rfl ?_
  refine RL.skip rfl ?_
  refine RL.skip rfl ?_
  refine RL.pick_f rfl rfl ?_
  refine RL.assign rfl ?_
  refine RL.assign rfl ?_
  refine RL.assign rfl ?_
  refine RL.nil ?_
  refine X.ret ?_
  refine ret3 rfl ?_
  show (_ : Value) = _
  exact shape_eq (by unfold takeP; split <;> (try split) <;> omega) (by unfold layP; split <;> omega) (by unfold okP; (repeat' split) <;> first | rfl | exact (decide_eq_true (by omega)).symm | exact (decide_eq_false (by omega)).symm | omega)
 replace c39 : ¬ ((_ : Int) = _) := c39
 refine RL.assign rfl ?_
 refine RL.nil ?_
 refine X.cond_f rfl ?_
 refine X.seq ?_
 refine X.region rfl ?_
 refine RL.cmp_s rfl rfl rfl rfl (fun c42 => ?_) (fun c42 => ?_)
 ·replace c42 : (_ : Int) = _ := c42
  refine RL.assign rfl ?_
  refine RL.nil ?_
  refine X.cond_t rfl ?_
  refine X.seq ?_
  refine X.draw (by kernel_rfl) (by kernel_rfl) ?_
  refine RL.move rfl ?_
  refine RL.move rfl ?_
  refine RL.skip rfl ?_
  refine RL.skip rfl ?_
  refine RL.skip rfl ?_
  refine RL.pick_f rfl rfl ?_
  refine RL.move rfl ?_
  refine RL.skip rfl ?_
  refine RL.skip rfl ?_
  refine RL.skip rfl ?_
  refine RL.pick_f rfl rfl ?_
  refine RL.assign rfl ?_
  refine RL.assign rfl ?_
  refine RL.assign rfl ?_
  refine RL.nil ?_
  refine X.ret ?_
  refine ret3 rfl ?_
  show (_ : Value) = _
  exact shape_eq (by unfold takeP; split <;> (try split) <;> omega) (by unfold layP; split <;> omega) (by unfold okP; (repeat' split) <;> first | rfl | exact (decide_eq_true (by omega)).symm | exact (decide_eq_false (by omega)).symm | omega)
 replace c42 : ¬ ((_ : Int) = _) := c42
 refine RL.assign rfl ?_
 refine RL.nil ?_
 refine X.cond_f rfl ?_
 refine X.seq ?_
 refine X.seq ?_
 refine X.region rfl ?_
 refine RL.cmp_s rfl rfl rfl rfl (fun c43 => ?_) (fun c43 => ?_)
 ·replace c43 : (_ : Int) = _ := c43
  refine RL.assign rfl ?_
  refine RL.nil ?_
  refine X.cond_t rfl ?_
  refine X.skip ?_
  refine X.cond_t rfl ?_
  refine X.seq ?_
  refine X.draw (by kernel_rfl) (by kernel_rfl) ?_
  refine RL.move rfl ?_
  refine RL.move rfl ?_
  refine RL.skip rfl ?_
  refine RL.skip rfl ?_
  refine RL.skip rfl ?_
  refine RL.pick_f rfl rfl ?_
  refine RL.assign rfl ?_
  refine RL.assign rfl ?_
  refine RL.assign rfl ?_
  refine RL.nil ?_
  refine X.ret ?_
  refine ret3 rfl ?_
  show (_ : Value) = _
  exact shape_eq (by unfold takeP; split <;> (try split) <;> omega) (by unfold layP; split <;> omega) (by unfold okP; (repeat' split) <;> first | rfl | exact (decide_eq_true (by omega)).symm | exact (decide_eq_false (by omega)).symm | omega)
 replace c43 : ¬ ((_ : Int) = _) := c43
 refine RL.assign rfl ?_
 refine RL.nil ?_
 refine X.cond_f rfl ?_
 refine X.region rfl ?_
 refine RL.cmp_s rfl rfl rfl rfl (fun c44 => ?_) (fun c44 => ?_)
 ·replace c44 : (_ : Int) = _ := c44
  refine RL.assign rfl ?_
  refine RL.nil ?_
  refine X.cond_t rfl ?_
  refine X.seq ?_
  refine X.draw (by kernel_rfl) (by kernel_rfl) ?_
  refine RL.move rfl ?_
  refine RL.move rfl ?_
  refine RL.skip rfl ?_
  refine RL.skip rfl ?_
  refine RL.skip rfl ?_
  refine RL.pick_f rfl rfl ?_
  refine RL.assign rfl ?_
  refine RL.assign rfl ?_
  refine RL.assign rfl ?_
  refine RL.nil ?_
  refine X.ret ?_
  refine ret3 rfl ?_
  show (_ : Value) = _
  exact shape_eq (by unfold takeP; split <;> (try split) <;> omega) (by unfold layP; split <;> omega) (by unfold okP; (repeat' split) <;> first | rfl | exact (decide_eq_true (by omega)).symm | exact (decide_eq_false (by omega)).symm | omega)
 replace c44 : ¬ ((_ : Int) = _) := c44
 refine RL.assign rfl ?_
 refine RL.nil ?_
 refine X.cond_f rfl ?_
 refine X.seq ?_
 refine X.seq ?_
 refine X.region rfl ?_
 refine RL.cmp_s rfl rfl rfl rfl (fun c45 => ?_) (fun c45 => ?_)
 ·replace c45 : (_ : Int) = _ := c45
  refine RL.assign rfl ?_
  refine RL.nil ?_
  refine X.cond_t rfl ?_
  refine X.skip ?_
  refine X.cond_t rfl ?_
  refine X.region rfl ?_
  refine RL.assign rfl ?_
  refine RL.nil ?_
  refine X.blk ?_
  refine X.seq ?_
  refine X.draw (by kernel_rfl) (by kernel_rfl) ?_
  refine RL.move rfl ?_
  refine RL.move rfl ?_
  refine RL.fieldAddr rfl fd77_1 rfl ?_
  refine RL.loadO rfl sc3 rfl rfl ?_
  refine RL.cmp_s rfl rfl rfl rfl (fun c46 => ?_) (fun c46 => ?_)
  ·replace c46 : (_ : Int) = _ := c46
   refine RL.move rfl ?_
   refine RL.fieldAddr rfl fd77_2 rfl ?_
   refine RL.loadO rfl sc3 rfl rfl ?_
   refine RL.cmp_s rfl rfl rfl rfl (fun c47 => ?_) (fun c47 => ?_)
   ·replace c47 : (_ : Int) = _ := c47
    refine RL.pick_t rfl rfl ?_
    refine RL.assign rfl ?_
    refine RL.assign rfl ?_
    refine RL.assign rfl ?_
    refine RL.nil ?_
    refine X.ret ?_
    refine ret3 rfl ?_
    show (_ : Value) = _
    exact shape_eq (by unfold takeP; split <;> (try split) <;> omega) (by unfold layP; split <;> omega) (by unfold okP; (repeat' split) <;> first | rfl | exact (decide_eq_true (by omega)).symm | exact (decide_eq_false (by omega)).symm | omega)
   replace c47 : ¬ ((_ : Int) = _) := c47
   refine RL.pick_t rfl rfl ?_
   refine RL.assign rfl ?_
   refine RL.assign rfl ?_
   refine RL.assign rfl ?_
   refine RL.nil ?_
   refine X.ret ?_
   refine ret3 rfl ?_
   show (_ : Value) = _
   exact shape_eq (by unfold takeP; split <;> (try split) <;> omega) (by unfold layP; split <;> omega) (by unfold okP; (repeat' split) <;> first | rfl | exact (decide_eq_true (by omega)).symm | exact (decide_eq_false (by omega)).symm | omega)
  replace c46 : ¬ ((_ : Int) = _) := c46
  refine RL.move rfl ?_
  refine RL.skip rfl ?_
  refine RL.skip rfl ?_
  refine RL.skip rfl ?_
  refine RL.pick_f rfl rfl ?_
  refine RL.assign rfl ?_
  refine RL.assign rfl ?_
  refine RL.assign rfl ?_
  refine RL.nil ?_
  refine X.ret ?_
  refine ret3 rfl ?_
  show (_ : Value) = _
  exact shape_eq (by unfold takeP; split <;> (try split) <;> omega) (by unfold layP; split <;> omega) (by unfold okP; (repeat' split) <;> first | rfl | exact (decide_eq_true (by omega)).symm | exact (decide_eq_false (by omega)).symm | omega)
 replace c45 : ¬ ((_ : Int) = _) := c45
 refine RL.assign rfl ?_
 refine RL.nil ?_
 refine X.cond_f rfl ?_
 refine X.region rfl ?_
 refine RL.cmp_s rfl rfl rfl rfl (fun c48 => ?_) (fun c48 => ?_)
 ·replace c48 : (_ : Int) = _ := c48
  refine RL.assign rfl ?_
  refine RL.nil ?_
  refine X.cond_t rfl ?_
  refine X.region rfl ?_
  refine RL.assign rfl ?_
  refine RL.nil ?_
  refine X.blk ?_
  refine X.seq ?_
  refine X.draw (by kernel_rfl) (by kernel_rfl) ?_
  refine RL.move rfl ?_
  refine RL.move rfl ?_
  refine RL.fieldAddr rfl fd77_1 rfl ?_
  refine RL.loadO rfl sc3 rfl rfl ?_
  refine RL.cmp_s rfl rfl rfl rfl (fun c49 => ?_) (fun c49 => ?_)
  ·replace c49 : (_ : Int) = _ := c49
   refine RL.move rfl ?_
   refine RL.fieldAddr rfl fd77_2 rfl ?_
   refine RL.loadO rfl sc3 rfl rfl ?_
   refine RL.cmp_s rfl rfl rfl rfl (fun c50 => ?_) (fun c50 => ?_)
   ·replace c50 : (_ : Int) = _ := c50
    refine RL.pick_t rfl rfl ?_
    refine RL.assign rfl ?_
    refine RL.assign rfl ?_
    refine RL.assign rfl ?_
    refine RL.nil ?_
    refine X.ret ?_
    refine ret3 rfl ?_
    show (_ : Value) = _
    exact shape_eq (by unfold takeP; split <;> (try split) <;> omega) (by unfold layP; split <;> omega) (by unfold okP; (repeat' split) <;> first | rfl | exact (decide_eq_true (by omega)).symm | exact (decide_eq_false (by omega)).symm | omega)
   replace c50 : ¬ ((_ : Int) = _) := c50
   refine RL.pick_t rfl rfl ?_
   refine RL.assign rfl ?_
   refine RL.assign rfl ?_
   refine RL.assign rfl ?_
   refine RL.nil ?_
   refine X.ret ?_
   refine ret3 rfl ?_
   show (_ : Value) = _
   exact shape_eq (by unfold takeP; split <;> (try split) <;> omega) (by unfold layP; split <;> omega) (by unfold okP; (repeat' split) <;> first | rfl | exact (decide_eq_true (by omega)).symm | exact (decide_eq_false (by omega)).symm | omega)
  replace c49 : ¬ ((_ : Int) = _) := c49
  refine RL.move rfl ?_
  refine RL.skip rfl ?_
  refine RL.skip rfl ?_
  refine RL.skip rfl ?_
  refine RL.pick_f rfl rfl ?_
  refine RL.assign rfl ?_
  refine RL.assign rfl ?_
  refine RL.assign rfl ?_
  refine RL.nil ?_
  refine X.ret ?_
  refine ret3 rfl ?_
  show (_ : Value) = _
  exact shape_eq (by unfold takeP; split <;> (try split) <;> omega) (by unfold layP; split <;> omega) (by unfold okP; (repeat' split) <;> first | rfl | exact (decide_eq_true (by omega)).symm | exact (decide_eq_false (by omega)).symm | omega)
 replace c48 : ¬ ((_ : Int) = _) := c48
 refine RL.assign rfl ?_
 refine RL.nil ?_
 refine X.cond_f rfl ?_
 refine X.seq ?_
 refine X.seq ?_
 refine X.region rfl ?_
 refine RL.cmp_s rfl rfl rfl rfl (fun c51 => ?_) (fun c51 => ?_)
 ·replace c51 : (_ : Int) = _ := c51
  refine RL.assign rfl ?_
  refine RL.nil ?_
  refine X.cond_t rfl ?_
  refine X.skip ?_
  refine X.cond_t rfl ?_
  refine X.region rfl ?_
  refine RL.assign rfl ?_
  refine RL.nil ?_
  refine X.blk ?_
  refine X.seq ?_
  refine X.draw (by kernel_rfl) (by kernel_rfl) ?_
  refine RL.move rfl ?_
  refine RL.move rfl ?_
  refine RL.fieldAddr rfl fd77_1 rfl ?_
  refine RL.loadO rfl sc3 rfl rfl ?_
  refine RL.cmp_s rfl rfl rfl rfl (fun c52 => ?_) (fun c52 => ?_)
  ·replace c52 : (_ : Int) = _ := c52
   refine RL.move rfl ?_
   refine RL.fieldAddr rfl fd77_2 rfl ?_
   refine RL.loadO rfl sc3 rfl rfl ?_
   refine RL.cmp_s rfl rfl rfl rfl (fun c53 => ?_) (fun c53 => ?_)
   ·replace c53 : (_ : Int) = _ := c53
    refine RL.pick_t rfl rfl ?_
    refine RL.assign rfl ?_
    refine RL.assign rfl ?_
    refine RL.assign rfl ?_
    refine RL.nil ?_
    refine X.ret ?_
    refine ret3 rfl ?_
    show (_ : Value) = _
    exact shape_eq (by unfold takeP; split <;> (try split) <;> omega) (by unfold layP; split <;> omega) (by unfold okP; (repeat' split) <;> first | rfl | exact (decide_eq_true (by omega)).symm | exact (decide_eq_false (by omega)).symm | omega)
   replace c53 : ¬ ((_ : Int) = _) := c53
   refine RL.pick_t rfl rfl ?_
   refine RL.assign rfl ?_
   refine RL.assign rfl ?_
   refine RL.assign rfl ?_
   refine RL.nil ?_
   refine X.ret ?_
   refine ret3 rfl ?_
   show (_ : Value) = _
   exact shape_eq (by unfold takeP; split <;> (try split) <;> omega) (by unfold layP; split <;> omega) (by unfold okP; (repeat' split) <;> first | rfl | exact (decide_eq_true (by omega)).symm | exact (decide_eq_false (by omega)).symm | omega)
  replace c52 : ¬ ((_ : Int) = _) := c52
  refine RL.move rfl ?_
  refine RL.skip rfl ?_
  refine RL.skip rfl ?_
  refine RL.skip rfl ?_
  refine RL.pick_f rfl rfl ?_
  refine RL.assign rfl ?_
  refine RL.assign rfl ?_
  refine RL.assign rfl ?_
  refine RL.nil ?_
  refine X.ret ?_
  refine ret3 rfl ?_
  show (_ : Value) = _
  exact shape_eq (by unfold takeP; split <;> (try split) <;> omega) (by unfold layP; split <;> omega) (by unfold okP; (repeat' split) <;> first | rfl | exact (decide_eq_true (by omega)).symm | exact (decide_eq_false (by omega)).symm | omega)
 replace c51 : ¬ ((_ : Int) = _) := c51
 refine RL.assign rfl ?_
 refine RL.nil ?_
 refine X.cond_f rfl ?_
 refine X.region rfl ?_
 refine RL.cmp_s rfl rfl rfl rfl (fun c54 => ?_) (fun c54 => ?_)
 ·replace c54 : (_ : Int) = _ := c54
  refine RL.assign rfl ?_
  refine RL.nil ?_
  refine X.cond_t rfl ?_
  refine X.region rfl ?_
  refine RL.assign rfl ?_
  refine RL.nil ?_
  refine X.blk ?_
  refine X.seq ?_
  refine X.draw (by kernel_rfl) (by kernel_rfl) ?_
  refine RL.move rfl ?_
  refine RL.move rfl ?_
  refine RL.fieldAddr rfl fd77_1 rfl ?_
  refine RL.loadO rfl sc3 rfl rfl ?_
  refine RL.cmp_s rfl rfl rfl rfl (fun c55 => ?_) (fun c55 => ?_)
  ·replace c55 : (_ : Int) = _ := c55
   refine RL.move rfl ?_
   refine RL.fieldAddr rfl fd77_2 rfl ?_
   refine RL.loadO rfl sc3 rfl rfl ?_
   refine RL.cmp_s rfl rfl rfl rfl (fun c56 => ?_) (fun c56 => ?_)
   ·replace c56 : (_ : Int) = _ := c56
    refine RL.pick_t rfl rfl ?_
    refine RL.assign rfl ?_
    refine RL.assign rfl ?_
    refine RL.assign rfl ?_
    refine RL.nil ?_
    refine X.ret ?_
    refine ret3 rfl ?_
    show (_ : Value) = _
    exact shape_eq (by unfold takeP; split <;> (try split) <;> omega) (by unfold layP; split <;> omega) (by unfold okP; (repeat' split) <;> first | rfl | exact (decide_eq_true (by omega)).symm | exact (decide_eq_false (by omega)).symm | omega)
   replace c56 : ¬ ((_ : Int) = _) := c56
   refine RL.pick_t rfl rfl ?_
   refine RL.assign rfl ?_
   refine RL.assign rfl ?_
   refine RL.assign rfl ?_
   refine RL.nil ?_
   refine X.ret ?_
   refine ret3 rfl ?_
   show (_ : Value) = _
   exact shape_eq (by unfold takeP; split <;> (try split) <;> omega) (by unfold layP; split <;> omega) (by unfold okP; (repeat' split) <;> first | rfl | exact (decide_eq_true (by omega)).symm | exact (decide_eq_false (by omega)).symm | omega)
  replace c55 : ¬ ((_ : Int) = _) := c55
  refine RL.move rfl ?_
  refine RL.skip rfl ?_
  refine RL.skip rfl ?_
  refine RL.skip rfl ?_
  refine RL.pick_f rfl rfl ?_
  refine RL.assign rfl ?_
  refine RL.assign rfl ?_
  refine RL.assign rfl ?_
  refine RL.nil ?_
  refine X.ret ?_
  refine ret3 rfl ?_
  show (_ : Value) = _
  exact shape_eq (by unfold takeP; split <;> (try split) <;> omega) (by unfold layP; split <;> omega) (by unfold okP; (repeat' split) <;> first | rfl | exact (decide_eq_true (by omega)).symm | exact (decide_eq_false (by omega)).symm | omega)
 replace c54 : ¬ ((_ : Int) = _) := c54
 refine RL.assign rfl ?_
 refine RL.nil ?_
 refine X.cond_f rfl ?_
 refine X.seq ?_
 refine X.region rfl ?_
 refine RL.cmp_s rfl rfl rfl rfl (fun c57 => ?_) (fun c57 => ?_)
 ·replace c57 : (_ : Int) = _ := c57
  refine RL.assign rfl ?_
  refine RL.nil ?_
  refine X.cond_t rfl ?_
  refine X.region rfl ?_
  refine RL.assign rfl ?_
  refine RL.assign rfl ?_
  refine RL.nil ?_
  refine X.blk ?_
  refine X.seq ?_
  refine X.draw (by kernel_rfl) (by kernel_rfl) ?_
  refine RL.move rfl ?_
  refine RL.move rfl ?_
  refine RL.fieldAddr rfl fd77_1 rfl ?_
  refine RL.loadO rfl sc3 rfl rfl ?_
  refine RL.cmp_s rfl rfl rfl rfl (fun c58 => ?_) (fun c58 => ?_)
  ·replace c58 : (_ : Int) = _ := c58
   refine RL.move rfl ?_
   refine RL.fieldAddr rfl fd77_2 rfl ?_
   refine RL.loadO rfl sc3 rfl rfl ?_
   refine RL.cmp_s rfl rfl rfl rfl (fun c59 => ?_) (fun c59 => ?_)
   ·replace c59 : (_ : Int) = _ := c59
    refine RL.pick_t rfl rfl ?_
    refine RL.assign rfl ?_
    refine RL.assign rfl ?_
    refine RL.assign rfl ?_
    refine RL.nil ?_
    refine X.ret ?_
    refine ret3 rfl ?_
    show (_ : Value) = _
    exact shape_eq (by unfold takeP; split <;> (try split) <;> omega) (by unfold layP; split <;> omega) (by unfold okP; (repeat' split) <;> first | rfl | exact (decide_eq_true (by omega)).symm | exact (decide_eq_false (by omega)).symm | omega)
   replace c59 : ¬ ((_ : Int) = _) := c59
   refine RL.pick_t rfl rfl ?_
   refine RL.assign rfl ?_
   refine RL.assign rfl ?_
   refine RL.assign rfl ?_
   refine RL.nil ?_
   refine X.ret ?_
   refine ret3 rfl ?_
   show (_ : Value) = _
   exact shape_eq (by unfold takeP; split <;> (try split) <;> omega) (by unfold layP; split <;> omega) (by unfold okP; (repeat' split) <;> first | rfl | exact (decide_eq_true (by omega)).symm | exact (decide_eq_false (by omega)).symm | omega)
  replace c58 : ¬ ((_ : Int) = _) := c58
  refine RL.move rfl ?_
  refine RL.skip rfl ?_
  refine RL.skip rfl ?_
  refine RL.skip rfl ?_
  refine RL.pick_f rfl rfl ?_
  refine RL.assign rfl ?_
  refine RL.assign rfl ?_
  refine RL.assign rfl ?_
  refine RL.nil ?_
  refine X.ret ?_
  refine ret3 rfl ?_
  show (_ : Value) = _
  exact shape_eq (by unfold takeP; split <;> (try split) <;> omega) (by unfold layP; split <;> omega) (by unfold okP; (repeat' split) <;> first | rfl | exact (decide_eq_true (by omega)).symm | exact (decide_eq_false (by omega)).symm | omega)
 replace c57 : ¬ ((_ : Int) = _) := c57
 refine RL.assign rfl ?_
 refine RL.nil ?_
 refine X.cond_f rfl ?_
 refine X.seq ?_
 refine X.region rfl ?_
 refine RL.cmp_s rfl rfl rfl rfl (fun c60 => ?_) (fun c60 => ?_)
 ·replace c60 : (_ : Int) = _ := c60
  refine RL.assign rfl ?_
  refine RL.nil ?_
  refine X.cond_t rfl ?_
  refine X.region rfl ?_
  refine RL.assign rfl ?_
  refine RL.assign rfl ?_
  refine RL.nil ?_
  refine X.blk ?_
  refine X.seq ?_
  refine X.draw (by kernel_rfl) (by kernel_rfl) ?_
  refine RL.move rfl ?_
  refine RL.move rfl ?_
  refine RL.fieldAddr rfl fd77_1 rfl ?_
  refine RL.loadO rfl sc3 rfl rfl ?_
  refine RL.cmp_s rfl rfl rfl rfl (fun c61 => ?_) (fun c61 => ?_)
  ·replace c61 : (_ : Int) = _ := c61
   refine RL.move rfl ?_
   refine RL.fieldAddr rfl fd77_2 rfl ?_
   refine RL.loadO rfl sc3 rfl rfl ?_
   refine RL.cmp_s rfl rfl rfl rfl (fun c62 => ?_) (fun c62 => ?_)
   ·replace c62 : (_ : Int) = _ := c62
    refine RL.pick_t rfl rfl ?_
    refine RL.assign rfl ?_
    refine RL.assign rfl ?_
    refine RL.assign rfl ?_
    refine RL.nil ?_
    refine X.ret ?_
    refine ret3 rfl ?_
    show (_ : Value) = _
    exact shape_eq (by unfold takeP; split <;> (try split) <;> omega) (by unfold layP; split <;> omega) (by unfold okP; (repeat' split) <;> first | rfl | exact (decide_eq_true (by omega)).symm | exact (decide_eq_false (by omega)).symm | omega)
   replace c62 : ¬ ((_ : Int) = _) := c62
   refine RL.pick_t rfl rfl ?_
   refine RL.assign rfl ?_
   refine RL.assign rfl ?_
   refine RL.assign rfl ?_
   refine RL.nil ?_
   refine X.ret ?_
   refine ret3 rfl ?_
   show (_ : Value) = _
   exact shape_eq (by unfold takeP; split <;> (try split) <;> omega) (by unfold layP; split <;> omega) (by unfold okP; (repeat' split) <;> first | rfl | exact (decide_eq_true (by omega)).symm | exact (decide_eq_false (by omega)).symm | omega)
  replace c61 : ¬ ((_ : Int) = _) := c61
  refine RL.move rfl ?_
  refine RL.skip rfl ?_
  refine RL.skip rfl ?_
  refine RL.skip rfl ?_
  refine RL.pick_f rfl rfl ?_
  refine RL.assign rfl ?_
  refine RL.assign rfl ?_
  refine RL.assign rfl ?_
  refine RL.nil ?_
  refine X.ret ?_
  refine ret3 rfl ?_
  show (_ : Value) = _
  exact shape_eq (by unfold takeP; split <;> (try split) <;> omega) (by unfold layP; split <;> omega) (by unfold okP; (repeat' split) <;> first | rfl | exact (decide_eq_true (by omega)).symm | exact (decide_eq_false (by omega)).symm | omega)
 replace c60 : ¬ ((_ : Int) = _) := c60
 refine RL.assign rfl ?_
 refine RL.nil ?_
 refine X.cond_f rfl ?_
 refine X.seq ?_
 refine X.region rfl ?_
 refine RL.assign rfl ?_
 refine RL.assign rfl ?_
 refine RL.assign rfl ?_
 refine RL.nil ?_
 refine X.ret ?_
 refine ret3 rfl ?_
 show (_ : Value) = _
 exact shape_eq (by unfold takeP; split <;> (try split) <;> omega) (by unfold layP; split <;> omega) (by unfold okP; (repeat' split) <;> first | rfl | exact (decide_eq_true (by omega)).symm | exact (decide_eq_false (by omega)).symm | omega)
end Go.Proofs.Ytnebpklmbefmfaa

/- The small functions of frames. -/
import Derived.Test.YtekepfpkihnodaaA5
import Derived.Test.YtekepfpkihnodaaFrame
set_option linter.unusedVariables false
set_option linter.unusedSimpArgs false
namespace Go.Proofs.Ytekepfpkihnodaa
open Go.RowKit
attribute [local irreducible] X RL W Ctr
theorem f_lay (fb : Nat) (c0 c1 c2 c4 c5 : Value) (xs : List Int) (A : Option Addr) (cp : Nat) (Lr : List Ent) (hrow : Row 2 1 (.slice A xs.length cp) (ints xs) Lr) (hx : xs.length ≤ 1000) (n : Int) (w : World) (hown : ∀ p ∈ Lr ++ [(fb, cel 53 [c0, c1, c2, .slice A xs.length cp, c4, c5])], w.heap[p.1]? = some p.2) (hnd : (keys (Lr ++ [(fb, cel 53 [c0, c1, c2, .slice A xs.length cp, c4, c5])])).Nodup) :
    Ctr Try.prog 19 [.pointer (some ⟨fb, 0, none⟩), .int .i64 n] w (Lr ++ [(fb, cel 53 [c0, c1, c2, .slice A xs.length cp, c4, c5])]) fun v L => v = .tuple #[] ∧ ∃ A2 cp2 Lr2, Row 2 1 (.slice A2 (xs ++ [n]).length cp2) (ints (xs ++ [n])) Lr2 ∧ (Lr2 ++ [(fb, cel 53 [c0, c1, c2, .slice A2 (xs ++ [n]).length cp2, c4, c5])]).Sublist L := by
  refine Ctr.intro (n := 14) Try.func19 rfl Try.ntmps19 (Nat.le_of_ble_eq_true rfl) hown hnd ?_
  refine X.region rfl ?_
  refine RL.move rfl ?_
  refine RL.move rfl ?_
  refine RL.nilCheck rfl rfl ?_
  refine RL.fieldAddr rfl fd53_3 rfl ?_
  refine RL.loadO rfl sc35 rfl rfl ?_
  refine RL.move rfl ?_
  refine RL.bs1I rfl rfl sl35 zt2 rfl ?_
  intro bb3 hbb3
  refine RL.app1I (Lr := Lr) (Lz := [(fb, cel 53 [c0, c1, c2, .slice A xs.length cp, c4, c5])]) rfl rfl sl35 el_i64 Try.underlying35 (by classical exact List.perm_iff_count.2 (fun z => by simp only [List.count_append, List.count_cons, List.count_nil, List.cons_append, List.nil_append, List.set_cons_zero, List.set_cons_succ] <;> omega)) rfl rfl hrow (by rw [ints_length]; (try simp only [List.length_dropLast]); omega) (n := (xs ++ [n]).length) (by rw [ints_length]; simp) ?_
  intro A3 cp3 Lr3 hr3
  rw [← ints_snoc] at hr3
  refine RL.nilCheck rfl rfl ?_
  refine RL.fieldAddr rfl fd53_3 rfl ?_
  refine RL.stS rfl rfl sc35.size rfl rfl (by first | exact Nat.zero_lt_one | decide | simp) ?_
  refine RL.nil ?_
  refine X.nil ?_
  refine end0 rfl ?_
  exact ⟨rfl, A3, cp3, Lr3, hr3, List.Sublist.append (List.Sublist.refl _) (List.sublist_append_left _ _)⟩
theorem f_take (fb : Nat) (c0 c1 c2 c4 c5 : Value) (xs : List Int) (A : Option Addr) (cp : Nat) (Lr : List Ent) (hrow : Row 2 1 (.slice A xs.length cp) (ints xs) Lr) (hx : xs.length ≤ 1000) (h0 : 0 < xs.length) (w : World) (hown : ∀ p ∈ Lr ++ [(fb, cel 53 [c0, c1, c2, .slice A xs.length cp, c4, c5])], w.heap[p.1]? = some p.2) (hnd : (keys (Lr ++ [(fb, cel 53 [c0, c1, c2, .slice A xs.length cp, c4, c5])])).Nodup) :
    Ctr Try.prog 20 [.pointer (some ⟨fb, 0, none⟩)] w (Lr ++ [(fb, cel 53 [c0, c1, c2, .slice A xs.length cp, c4, c5])]) fun v L => v = .int .i64 (top xs) ∧ ∃ A2 cp2 Lr2, Row 2 1 (.slice A2 xs.dropLast.length cp2) (ints xs.dropLast) Lr2 ∧ (Lr2 ++ [(fb, cel 53 [c0, c1, c2, .slice A2 xs.dropLast.length cp2, c4, c5])]).Sublist L := by
  obtain ⟨b, junk, rfl, rfl⟩ := hrow.open (by omega)
  have htop := top_get h0
  have hcp : xs.length ≤ cp := (hrow.slice (by decide)).elim (fun _ h => by obtain ⟨m2, c2, e1, e2, e3, e4⟩ := h; cases e1; exact e3)
  have hsh := row_short hrow
  refine Ctr.intro (n := 28) Try.func20 rfl Try.ntmps20 (Nat.le_of_ble_eq_true rfl) hown hnd ?_
  refine X.seq ?_
  refine X.region rfl ?_
  refine RL.assign rfl ?_
  refine RL.nil ?_
  refine X.seq ?_
  refine X.region rfl ?_
  refine RL.move rfl ?_
  refine RL.nilCheck rfl rfl ?_
  refine RL.fieldAddr rfl fd53_3 rfl ?_
  refine RL.loadO rfl sc35 rfl rfl ?_
  refine RL.len rfl sl35 rfl ?_
  refine RL.sub rfl rfl rfl (by omega) ?_
  refine RL.assign rfl ?_
  refine RL.nil ?_
  refine X.seq ?_
  refine X.region rfl ?_
  refine RL.move rfl ?_
  refine RL.nilCheck rfl rfl ?_
  refine RL.fieldAddr rfl fd53_3 rfl ?_
  refine RL.loadO rfl sc35 rfl rfl ?_
  refine RL.move rfl ?_
  refine RL.indexAddr rfl sl35 rfl rfl rfl (show ((xs.length : Nat) : Int) - 1 = ((xs.length - 1 : Nat) : Int) by omega) (by omega) ?_
  refine RL.loadO rfl sc2 rfl (ints_app_get htop) ?_
  refine RL.assign rfl ?_
  refine RL.nil ?_
  refine X.seq ?_
  refine X.region rfl ?_
  refine RL.move rfl ?_
  refine RL.move rfl ?_
  refine RL.nilCheck rfl rfl ?_
  refine RL.fieldAddr rfl fd53_3 rfl ?_
  refine RL.loadO rfl sc35 rfl rfl ?_
  refine RL.move rfl ?_
  refine RL.sliceHi1 (j := xs.dropLast.length) rfl sl35 rfl rfl (by rw [dropLast_len]; omega) (by rw [dropLast_len]; omega) (by omega) ?_
  refine RL.nilCheck rfl rfl ?_
  refine RL.fieldAddr rfl fd53_3 rfl ?_
  refine RL.stS rfl rfl sc35.size rfl rfl (by first | exact Nat.zero_lt_one | decide | simp) ?_
  refine RL.nil ?_
  refine X.seq ?_
  refine X.region rfl ?_
  refine RL.move rfl ?_
  refine RL.assign rfl ?_
  refine RL.nil ?_
  refine X.ret ?_
  refine ret1 rfl ?_
  exact ⟨rfl, _, _, _, hsh, List.Sublist.refl _⟩
theorem f_clone64 (xs : List Int) (A : Option Addr) (c : Nat) (hx : xs.length ≤ 1000) (w : World) (hrd : Rd w A (ints xs)) :
    Ctr Try.prog 28 [.slice A xs.length c] w [] fun v L => ∃ A2 cp2 Lr2, v = .slice A2 xs.length cp2 ∧ Row 2 1 (.slice A2 xs.length cp2) (ints xs) Lr2 ∧ Lr2.Sublist L := by
  obtain ⟨bb, oo, hA, hc⟩ := hrd
  rw [ints_length] at hA
  rcases A with _ | a
  · have h0 : xs = [] := by
      apply List.eq_nil_of_length_eq_zero
      rcases Nat.eq_zero_or_pos xs.length with h | h
      · exact h
      · have := hA h; cases this
    subst h0
    refine Ctr.intro0 (n := 8) Try.func28 rfl Try.ntmps28 (Nat.le_of_ble_eq_true rfl) ?_
    refine X.seq ?_
    refine X.region rfl ?_
    refine RL.assign rfl ?_
    refine RL.nil ?_
    refine X.seq ?_
    refine X.seq ?_
    refine X.region rfl ?_
    refine RL.move rfl ?_
    refine RL.eqSn rfl sl35 rfl rfl rfl ?_
    refine RL.nil ?_
    refine X.cond_t rfl ?_
    refine X.seq ?_
    refine X.region rfl ?_
    refine RL.assign rfl ?_
    refine RL.nil ?_
    refine X.ret ?_
    refine ret1 rfl ?_
    exact ⟨none, 0, [], rfl, Row.nil, List.nil_sublist _⟩
  · refine Ctr.intro0 (n := 8) Try.func28 rfl Try.ntmps28 (Nat.le_of_ble_eq_true rfl) ?_
    refine X.seq ?_
    refine X.region rfl ?_
    refine RL.assign rfl ?_
    refine RL.nil ?_
    refine X.seq ?_
    refine X.seq ?_
    refine X.region rfl ?_
    refine RL.move rfl ?_
    refine RL.eqSn rfl sl35 rfl rfl rfl ?_
    refine RL.nil ?_
    refine X.cond_f rfl ?_
    refine X.skip ?_
    refine X.seq ?_
    refine X.region rfl ?_
    refine RL.bs0 rfl rfl sl35 ?_
    intro b1 hb1
    refine RL.move rfl ?_
    refine RL.append (xs := []) (Lr := [(b1, cel 2 [])]) (Lz := []) (ys := ints xs) rfl rfl sl35 el_i64 (by decide) (by decide) Try.underlying35 (List.Perm.refl _) rfl (Row.blk b1 0 0 [] [] rfl rfl (Nat.le_refl _)) rfl (by rw [ints_length, Nat.mul_one]) (ints_one xs) (fun w2 hw2 => ?_) (fun m hm => by simp only [List.length_nil] at hm; omega) ?_
    · rcases Nat.eq_zero_or_pos xs.length with h0 | h0
      · exact .inl (List.eq_nil_of_length_eq_zero (by rw [ints_length, h0]))
      · exact .inr ⟨bb, oo, hA h0, hw2.cellsI hc (by simp)⟩
    rw [List.nil_append]
    intro v2 Lr hrow
    rw [List.append_nil]
    obtain ⟨A2, m2, cp2, rfl, hm2, _, _⟩ := hrow.slice (by decide)
    obtain rfl : m2 = xs.length := by rw [ints_length] at hm2; omega
    refine RL.assign rfl ?_
    refine RL.nil ?_
    refine X.ret ?_
    refine ret1 rfl ?_
    exact ⟨A2, cp2, Lr, rfl, hrow, List.Sublist.refl _⟩
theorem f_cloneI (l : List Ins) (hlen : l.length ≤ 1000) (A : Option Addr) (c : Nat) (w : World) (hrd : Rd w A (icells l)) (h0 : 0 < l.length) :
    Ctr Try.prog 18 [.slice A l.length c] w [] fun v L => ∃ A2 cp2 Lr2, v = .slice A2 l.length cp2 ∧ Row 27 3 (.slice A2 l.length cp2) (icells l) Lr2 ∧ Lr2.Sublist L := by
  obtain ⟨bb, oo, hA0, hc⟩ := hrd
  have hA : 0 < l.length → A = some ⟨bb, oo, none⟩ := fun h => hA0 (by rw [ecells_len Ins.len]; omega)
  obtain rfl := hA h0
  have hA := fun (_ : 0 < l.length) => (rfl : (some ⟨bb, oo, none⟩ : Option Addr) = some ⟨bb, oo, none⟩)
  refine Ctr.intro0 (n := 8) Try.func18 rfl Try.ntmps18 (Nat.le_of_ble_eq_true rfl) ?_
  refine X.seq ?_
  refine X.region rfl ?_
  refine RL.assign rfl ?_
  refine RL.nil ?_
  refine X.seq ?_
  refine X.seq ?_
  refine X.region rfl ?_
  refine RL.move rfl ?_
  refine RL.eqSn rfl sl28 rfl rfl rfl ?_
  refine RL.nil ?_
  refine X.cond_f rfl ?_
  refine X.skip ?_
  refine X.seq ?_
  refine X.region rfl ?_
  refine RL.bs0 rfl rfl sl28 ?_
  intro b1 hb1
  refine RL.move rfl ?_
  refine RL.append (xs := []) (Lr := [(b1, cel 27 [])]) (Lz := []) (ys := icells l) rfl rfl sl28 el_ins (by decide) (by decide) Try.underlying28 (List.Perm.refl _) rfl (Row.blk b1 0 0 [] [] rfl rfl (Nat.le_refl _)) rfl (ecells_len Ins.len l) (ecells_one Ins.one l) (fun w2 hw2 => ?_) (fun m hm => by simp only [List.length_nil] at hm; omega) ?_
  · exact .inr ⟨bb, oo, rfl, hw2.cellsI hc (by simp)⟩
  rw [List.nil_append]
  intro v2 Lr hrow
  rw [List.append_nil]
  obtain ⟨A2, m2, cp2, rfl, hm2, _, _⟩ := hrow.slice (by decide)
  obtain rfl : m2 = l.length := by rw [ecells_len Ins.len] at hm2; omega
  refine RL.assign rfl ?_
  refine RL.nil ?_
  refine X.ret ?_
  refine ret1 rfl ?_
  exact ⟨A2, cp2, Lr, rfl, hrow, List.Sublist.refl _⟩
theorem f_same (xs ys : List Int) (A B : Option Addr) (c d : Nat) (w : World) (hx : xs.length ≤ 1000000) (hy : ys.length ≤ 1000000) (ha : Rd w A (ints xs)) (hb : Rd w B (ints ys)) :
    Ctr Try.prog 13 [.slice A xs.length c, .slice B ys.length d] w [] fun v _ => v = .bool (decide (xs = ys)) := by
  obtain ⟨ba, oa, ha1, ha2⟩ := ha
  obtain ⟨bb, ob, hb1, hb2⟩ := hb
  rw [ints_length] at ha1 hb1
  refine Ctr.intro0 (n := 26) Try.func13 rfl Try.ntmps13 (Nat.le_of_ble_eq_true rfl) ?_
  refine X.seq ?_
  refine X.region rfl ?_
  refine RL.assign rfl ?_
  refine RL.nil ?_
  refine X.seq ?_
  refine X.seq ?_
  refine X.region rfl ?_
  refine RL.move rfl ?_
  refine RL.len rfl sl35 rfl ?_
  refine RL.move rfl ?_
  refine RL.len rfl sl35 rfl ?_
  refine RL.cmp_s rfl rfl rfl rfl (fun h => ?_) (fun h => ?_)
  · replace h : (_ : Int) ≠ _ := h
    refine RL.nil ?_
    refine X.cond_t rfl ?_
    refine X.seq ?_
    refine X.region rfl ?_
    refine RL.assign rfl ?_
    refine RL.nil ?_
    refine X.ret ?_
    refine ret1 rfl ?_
    show (_ : Value) = _
    rw [decide_eq_false (fun e => h (by rw [e]))]
  · replace h : ¬ ((_ : Int) ≠ _) := h
    have hlen : xs.length = ys.length := by omega
    refine RL.nil ?_
    refine X.cond_f rfl ?_
    refine X.skip ?_
    refine X.seq ?_
    refine X.seq ?_
    refine X.region rfl ?_
    refine RL.assign rfl ?_
    refine RL.nil ?_
    refine X.block ?_
    refine X.loop (γ := Nat) (fun g ρ L => (g ≤ xs.length) ∧ (xs.take g = ys.take g) ∧ Has ρ [(0, .slice A xs.length c), (1, .slice B ys.length d), (5, .int .i64 g)] ∧ L = []) (fun g => xs.length - g) (0) ⟨_, (by repeat (first | exact List.Sublist.refl _ | exact List.nil_sublist _ | (rw [List.append_nil]; exact List.Sublist.refl _) | exact List.sublist_append_left _ _ | exact (List.sublist_append_left _ _).trans (List.sublist_append_left _ _) | apply List.Sublist.cons_cons | apply List.Sublist.cons | refine List.Sublist.trans ?_ (List.sublist_append_right _ _))), Nat.zero_le _, rfl, ⟨rfl, rfl, rfl, trivial⟩, rfl⟩ ?_
    rintro g _ _ ⟨q1, q2, hρ, rfl⟩
    obtain ⟨base, rfl⟩ := hρ.base
    clear hρ
    refine X.seq ?_
    refine X.seq ?_
    refine X.region rfl ?_
    refine RL.move rfl ?_
    refine RL.move rfl ?_
    refine RL.len rfl sl35 rfl ?_
    refine RL.cmp_s rfl rfl rfl rfl (fun hl => ?_) (fun hl => ?_)
    · replace hl : (_ : Int) < _ := hl
      obtain ⟨a, hxa⟩ : ∃ a, xs[g]? = some a := ⟨_, List.getElem?_eq_getElem (by omega)⟩
      obtain ⟨b, hyb⟩ : ∃ b, ys[g]? = some b := ⟨_, List.getElem?_eq_getElem (by omega)⟩
      have t1 := List.take_succ_eq_append_getElem (l := xs) (i := g) (by omega)
      have t2 := List.take_succ_eq_append_getElem (l := ys) (i := g) (by omega)
      have u1 : xs[g]'(by omega) = a := by rw [List.getElem?_eq_getElem (by omega)] at hxa; exact Option.some.inj hxa
      have u2 : ys[g]'(by omega) = b := by rw [List.getElem?_eq_getElem (by omega)] at hyb; exact Option.some.inj hyb
      refine RL.nil ?_
      refine X.cond_t rfl ?_
      refine X.skip ?_
      refine X.seq ?_
      refine X.block ?_
      refine X.seq ?_
      refine X.draw (by kernel_rfl) (by kernel_rfl) ?_
      refine RL.move rfl ?_
      refine RL.move rfl ?_
      refine RL.indexAddr rfl sl35 rfl rfl (ha1 (by omega)) rfl (by omega) ?_
      refine RL.loadI rfl sc2 rfl (by rw [Nat.mul_one]; exact ha2 g _ (ints_get hxa)) (by simp) ?_
      refine RL.move rfl ?_
      refine RL.move rfl ?_
      refine RL.indexAddr rfl sl35 rfl rfl (hb1 (by omega)) rfl (by omega) ?_
      refine RL.loadI rfl sc2 rfl (by rw [Nat.mul_one]; exact hb2 g _ (ints_get hyb)) (by simp) ?_
      refine RL.cmp_s rfl rfl rfl rfl (fun he => ?_) (fun he => ?_)
      · replace he : (_ : Int) ≠ _ := he
        refine RL.nil ?_
        refine X.cond_t rfl ?_
        refine X.seq ?_
        refine X.region rfl ?_
        refine RL.assign rfl ?_
        refine RL.nil ?_
        refine X.ret ?_
        refine ret1 rfl ?_
        show (_ : Value) = _
        rw [decide_eq_false]
        rintro rfl
        rw [hxa] at hyb
        exact he (Option.some.inj hyb)
      · replace he : ¬ ((_ : Int) ≠ _) := he
        refine RL.nil ?_
        refine X.cond_f rfl ?_
        refine X.skip ?_
        refine X.blk ?_
        refine X.region rfl ?_
        refine RL.move rfl ?_
        refine RL.add rfl rfl rfl (by omega) ?_
        refine RL.assign rfl ?_
        refine RL.nil ?_
        refine X.hyp ⟨rfl, g + 1, by omega, _, (by repeat (first | exact List.Sublist.refl _ | exact List.nil_sublist _ | (rw [List.append_nil]; exact List.Sublist.refl _) | exact List.sublist_append_left _ _ | exact (List.sublist_append_left _ _).trans (List.sublist_append_left _ _) | apply List.Sublist.cons_cons | apply List.Sublist.cons | refine List.Sublist.trans ?_ (List.sublist_append_right _ _))), by omega, by rw [t1, t2, q2, u1, u2]; congr 2; exact Decidable.not_not.1 he, ⟨rfl, rfl, rfl, trivial⟩, rfl⟩
    · replace hl : ¬ ((_ : Int) < _) := hl
      refine RL.nil ?_
      refine X.cond_f rfl ?_
      refine X.exit rfl ?_
      refine X.seq ?_
      refine X.region rfl ?_
      refine RL.assign rfl ?_
      refine RL.nil ?_
      refine X.ret ?_
      refine ret1 rfl ?_
      show (_ : Value) = _
      rw [decide_eq_true]
      rw [List.take_of_length_le (by omega), List.take_of_length_le (by omega)] at q2
      exact q2
end Go.Proofs.Ytekepfpkihnodaa

/- The names, twice told; the walk of CodeNames. -/
import Derived.Test.YtaklegcphmfghaaA5
import Derived.Test.YtaklegcphmfghaaNames
set_option linter.unusedVariables false
set_option linter.unusedSimpArgs false
namespace Go.Proofs.Ytaklegcphmfghaa
open Go.RowKit
attribute [local irreducible] X RL W Ctr
theorem f_names (op : Int) (w : World) : Ctr Try.prog 17 [.int .i64 op] w [] fun v _ => v = .string (nameP op) := by
  refine Ctr.intro0 (n := 31) Try.func17 rfl Try.ntmps17 (Nat.le_of_ble_eq_true rfl) ?_
  refine X.seq ?_
  refine X.region rfl ?_
  refine RL.assign rfl ?_
  refine RL.nil ?_
  refine X.seq ?_
  refine X.seq ?_
  refine X.region rfl ?_
  refine RL.move rfl ?_
  refine RL.cmp_s rfl rfl rfl rfl (fun h => ?_) (fun h => ?_)
  · replace h : (_ : Int) < _ := h
    refine RL.move rfl ?_
    refine RL.skip rfl ?_
    refine RL.skip rfl ?_
    refine RL.pick_t rfl rfl ?_
    refine RL.nil ?_
    refine X.cond_t rfl ?_
    refine X.seq ?_
    refine X.region rfl ?_
    refine RL.assign rfl ?_
    refine RL.nil ?_
    refine X.ret ?_
    refine ret1 rfl ?_
    show (_ : Value) = _
    rw [nameP_out (by omega)]
  · replace h : ¬ ((_ : Int) < _) := h
    refine RL.move rfl ?_
    refine RL.move rfl ?_
    refine RL.cmp_s rfl rfl rfl rfl (fun h2 => ?_) (fun h2 => ?_)
    · replace h2 : (_ : Int) > _ := h2
      refine RL.pick_f rfl rfl ?_
      refine RL.nil ?_
      refine X.cond_t rfl ?_
      refine X.seq ?_
      refine X.region rfl ?_
      refine RL.assign rfl ?_
      refine RL.nil ?_
      refine X.ret ?_
      refine ret1 rfl ?_
      show (_ : Value) = _
      rw [nameP_out (by omega)]
    · replace h2 : ¬ ((_ : Int) > _) := h2
      have h1 : 1 ≤ op := by omega
      have h3 : op ≤ 11 := by omega
      refine RL.pick_f rfl rfl ?_
      refine RL.nil ?_
      refine X.cond_f rfl ?_
      refine X.skip ?_
      refine X.seq ?_
      refine X.region rfl ?_
      refine RL.move rfl ?_
      refine RL.sub rfl rfl rfl (by omega) ?_
      refine RL.mul rfl rfl rfl (by omega) ?_
      refine RL.move rfl ?_
      refine RL.mul rfl rfl rfl (by omega) ?_
      refine RL.min2 rfl rfl rfl ?_
      refine RL.sliceS (s := namesB) (i := (6 * (op - 1)).toNat) (j := (min (6 * op) 66).toNat) rfl Try.underlying9 rfl rfl rfl (by omega) (by omega) (by omega) (by rw [names_size]; omega) ?_
      refine RL.assign rfl ?_
      refine RL.nil ?_
      refine X.seq ?_
      refine X.seq ?_
      refine X.region rfl ?_
      refine RL.move rfl ?_
      refine RL.rangeS rfl rfl Try.underlying9 rfl ?_
      intro b1 hb1
      refine RL.nil ?_
      refine X.block ?_
      refine X.loop (γ := Nat) (fun g ρ L => (g ≤ (cutB op).size) ∧ (∀ j, j < g → (cutB op).get! j ≠ 32) ∧ Has ρ [(3, .string (cutB op)), (19, .pointer (some ⟨b1, 0, none⟩))] ∧ L = [(b1, .stringIter (cutB op) g)]) (fun g => (cutB op).size - g) (0) ⟨_, (by repeat (first | exact List.Sublist.refl _ | exact List.nil_sublist _ | (rw [List.append_nil]; exact List.Sublist.refl _) | exact List.sublist_append_left _ _ | exact (List.sublist_append_left _ _).trans (List.sublist_append_left _ _) | apply List.Sublist.cons_cons | apply List.Sublist.cons | refine List.Sublist.trans ?_ (List.sublist_append_right _ _))), Nat.zero_le _, fun j hj => absurd hj (Nat.not_lt_zero j), ⟨rfl, rfl, trivial⟩, rfl⟩ ?_
      rintro g _ _ ⟨q1, q2, hρ, rfl⟩
      obtain ⟨base, rfl⟩ := hρ.base
      clear hρ
      refine X.seq ?_
      refine X.region rfl ?_
      by_cases hp : g < (cutB op).size
      · have hgb := get_bang hp
        have has : ((cutB op)[g]).toNat < 128 := by have := cut_ascii h1 h3 g hp; rwa [hgb] at this
        refine RL.nextS_t rfl rfl rfl hp (decode_ascii (cutB op) g hp has) ?_
        refine RL.extract rfl rfl rfl ?_
        refine RL.nil ?_
        refine X.seq ?_
        refine X.cond_t rfl ?_
        refine X.skip ?_
        refine X.block ?_
        refine X.seq ?_
        refine X.region rfl ?_
        refine RL.extract rfl rfl rfl ?_
        refine RL.assign rfl ?_
        refine RL.nil ?_
        refine X.seq ?_
        refine X.region rfl ?_
        refine RL.move rfl ?_
        refine RL.move rfl ?_
        refine RL.indexS rfl Try.underlying9 rfl rfl rfl (getElem?_pos (cutB op) g hp) ?_
        refine RL.cmp_s rfl rfl rfl rfl (fun he => ?_) (fun he => ?_)
        · replace he : (_ : Int) = _ := he
          have he2 : (cutB op).get! g = 32 := by rw [hgb]; exact UInt8.toNat_inj.1 (by rw [show (32 : UInt8).toNat = 32 from rfl]; omega)
          refine RL.nil ?_
          refine X.cond_t rfl ?_
          refine X.seq ?_
          refine X.region rfl ?_
          refine RL.move rfl ?_
          refine RL.move rfl ?_
          refine RL.sliceSHi (j := g) rfl Try.underlying9 rfl rfl rfl (by omega) ?_
          refine RL.assign rfl ?_
          refine RL.nil ?_
          refine X.ret ?_
          refine ret1 rfl ?_
          show (_ : Value) = _
          rw [← trim_name h1 h3, trim_hit hp he2 q2]
        · replace he : ¬ ((_ : Int) = _) := he
          have he2 : (cutB op).get! g ≠ 32 := by rw [hgb]; intro e; apply he; rw [e]; rfl
          refine RL.nil ?_
          refine X.cond_f rfl ?_
          refine X.skip ?_
          refine X.blk ?_
          refine X.hyp ⟨rfl, g + 1, by omega, _, (by repeat (first | exact List.Sublist.refl _ | exact List.nil_sublist _ | (rw [List.append_nil]; exact List.Sublist.refl _) | exact List.sublist_append_left _ _ | exact (List.sublist_append_left _ _).trans (List.sublist_append_left _ _) | apply List.Sublist.cons_cons | apply List.Sublist.cons | refine List.Sublist.trans ?_ (List.sublist_append_right _ _))), by omega, fun j hj => by
              rcases Nat.lt_succ_iff_lt_or_eq.1 hj with h4 | rfl
              · exact q2 j h4
              · exact he2, ⟨rfl, rfl, trivial⟩, rfl⟩
      · refine RL.nextS_f rfl rfl rfl hp ?_
        refine RL.extract rfl rfl rfl ?_
        refine RL.nil ?_
        refine X.seq ?_
        refine X.cond_f rfl ?_
        refine X.exit rfl ?_
        refine X.seq ?_
        refine X.region rfl ?_
        refine RL.move rfl ?_
        refine RL.assign rfl ?_
        refine RL.nil ?_
        refine X.ret ?_
        refine ret1 rfl ?_
        show (_ : Value) = _
        rw [← trim_name h1 h3, trim_no (fun j hj => q2 j (by omega))]
theorem f_rname (op : Int) (w : World) : Ctr Try.prog 18 [.int .i64 op] w [] fun v _ => v = .string (nameP op) := by
  refine Ctr.intro0 (n := 14) Try.func18 rfl Try.ntmps18 (Nat.le_of_ble_eq_true rfl) ?_
  refine X.seq ?_
  refine X.region rfl ?_
  refine RL.assign rfl ?_
  refine RL.nil ?_
  refine X.seq ?_
  refine X.seq ?_
  refine X.region rfl ?_
  refine RL.move rfl ?_
  refine RL.cmp_s rfl rfl rfl rfl (fun h => ?_) (fun h => ?_)
  · replace h : (_ : Int) < _ := h
    refine RL.move rfl ?_
    refine RL.skip rfl ?_
    refine RL.skip rfl ?_
    refine RL.pick_t rfl rfl ?_
    refine RL.nil ?_
    refine X.cond_t rfl ?_
    refine X.seq ?_
    refine X.region rfl ?_
    refine RL.assign rfl ?_
    refine RL.nil ?_
    refine X.ret ?_
    refine ret1 rfl ?_
    show (_ : Value) = _
    rw [nameP_out (by omega)]
  · replace h : ¬ ((_ : Int) < _) := h
    refine RL.move rfl ?_
    refine RL.move rfl ?_
    refine RL.cmp_s rfl rfl rfl rfl (fun h2 => ?_) (fun h2 => ?_)
    · replace h2 : (_ : Int) > _ := h2
      refine RL.pick_f rfl rfl ?_
      refine RL.nil ?_
      refine X.cond_t rfl ?_
      refine X.seq ?_
      refine X.region rfl ?_
      refine RL.assign rfl ?_
      refine RL.nil ?_
      refine X.ret ?_
      refine ret1 rfl ?_
      show (_ : Value) = _
      rw [nameP_out (by omega)]
    · replace h2 : ¬ ((_ : Int) > _) := h2
      refine RL.pick_f rfl rfl ?_
      refine RL.nil ?_
      refine X.cond_f rfl ?_
      refine X.skip ?_
      refine X.seq ?_
      refine X.region rfl ?_
      refine RL.bsC (vs := [(0, .string ⟨#[112, 117, 115, 104]⟩), (1, .string ⟨#[97, 114, 103]⟩), (2, .string ⟨#[108, 111, 97, 100]⟩), (3, .string ⟨#[115, 116, 111, 114, 101]⟩), (4, .string ⟨#[97, 100, 100]⟩), (5, .string ⟨#[110, 101, 103]⟩), (6, .string ⟨#[115, 107, 105, 112]⟩), (7, .string ⟨#[99, 97, 108, 108]⟩), (8, .string ⟨#[112, 117, 116]⟩), (9, .string ⟨#[100, 114, 111, 112]⟩), (10, .string ⟨#[114, 101, 116, 117, 114, 110]⟩)]) (cells := nameL) rfl rfl sl53 (fun w => let ⟨v, a, b⟩ := zt9; ⟨v, a, b w⟩) rfl rfl rfl (by kernel_rfl) ?_
      intro b1 hb1
      refine RL.move rfl ?_
      refine RL.sub rfl rfl rfl (by omega) ?_
      refine RL.indexAddr rfl sl53 rfl rfl rfl (show op - 1 = ((op - 1).toNat : Int) by omega) (by omega) ?_
      refine RL.loadO rfl sc9 rfl (nameL_at (by omega) (by omega)) ?_
      refine RL.assign rfl ?_
      refine RL.nil ?_
      refine X.ret ?_
      refine ret1 rfl ?_
      show (_ : Value) = _
      rfl
theorem w_names (a b : Int) (w : World) : Ctr Try.prog 8 [.int .i64 a, .int .i64 b] w [] fun v _ => v = .bool true := by
  refine Ctr.intro0 (n := 32) Try.func8 rfl Try.ntmps8 (Nat.le_of_ble_eq_true rfl) ?_
  by_cases hab : nameP a = nameP b
  · refine X.seq ?_
    refine X.region rfl ?_
    refine RL.assign rfl ?_
    refine RL.nil ?_
    refine X.seq ?_
    refine X.region rfl ?_
    refine RL.move rfl ?_
    refine RL.fn0 rfl rfl rfl en17 (fun w hw => (f_names a w)) rfl ?_
    rintro _ _ rfl
    refine RL.move rfl ?_
    refine RL.fn0 rfl rfl rfl en17 (fun w hw => (f_names b w)) rfl ?_
    rintro _ _ rfl
    refine RL.assign rfl ?_
    refine RL.assign rfl ?_
    refine RL.nil ?_
    refine X.seq ?_
    refine X.region rfl ?_
    refine RL.move rfl ?_
    refine RL.move rfl ?_
    refine RL.fn0 rfl rfl rfl en18 (fun w hw => (f_rname a w)) rfl ?_
    rintro _ _ rfl
    refine RL.eqS rfl rfl rfl ?_
    rw [decide_eq_true rfl]
    refine RL.move rfl ?_
    refine RL.move rfl ?_
    refine RL.move rfl ?_
    refine RL.neS rfl rfl rfl ?_
    rw [decide_eq_true hab]
    show RL _ _ _ _ _ (updO _ _ (.bool false)) _ _
    refine RL.move rfl ?_
    refine RL.move rfl ?_
    refine RL.move rfl ?_
    refine RL.cmp_s rfl rfl rfl rfl (fun he => ?_) (fun he => ?_)
    · replace he : (_ : Int) = _ := he
      refine RL.pick_f rfl rfl ?_
      refine RL.move rfl ?_
      refine RL.skip rfl ?_
      refine RL.skip rfl ?_
      refine RL.pick_t rfl rfl ?_
      refine RL.pick_t rfl rfl ?_
      refine RL.move rfl ?_
      refine RL.fn0 rfl rfl rfl en10 (fun w hw => (f_awake w)) rfl ?_
      rintro _ _ rfl
      refine RL.pick_t rfl rfl ?_
      refine RL.assign rfl ?_
      refine RL.nil ?_
      refine X.ret ?_
      refine ret1 rfl ?_
      show (_ : Value) = _
      rfl
    · replace he : ¬ ((_ : Int) = _) := he
      refine RL.pick_f rfl rfl ?_
      refine RL.move rfl ?_
      refine RL.move rfl ?_
      refine RL.eqS rfl rfl rfl ?_
      rw [decide_eq_true (name_clash hab he)]
      refine RL.pick_f rfl rfl ?_
      refine RL.pick_t rfl rfl ?_
      refine RL.move rfl ?_
      refine RL.fn0 rfl rfl rfl en10 (fun w hw => (f_awake w)) rfl ?_
      rintro _ _ rfl
      refine RL.pick_t rfl rfl ?_
      refine RL.assign rfl ?_
      refine RL.nil ?_
      refine X.ret ?_
      refine ret1 rfl ?_
      show (_ : Value) = _
      rfl
  · refine X.seq ?_
    refine X.region rfl ?_
    refine RL.assign rfl ?_
    refine RL.nil ?_
    refine X.seq ?_
    refine X.region rfl ?_
    refine RL.move rfl ?_
    refine RL.fn0 rfl rfl rfl en17 (fun w hw => (f_names a w)) rfl ?_
    rintro _ _ rfl
    refine RL.move rfl ?_
    refine RL.fn0 rfl rfl rfl en17 (fun w hw => (f_names b w)) rfl ?_
    rintro _ _ rfl
    refine RL.assign rfl ?_
    refine RL.assign rfl ?_
    refine RL.nil ?_
    refine X.seq ?_
    refine X.region rfl ?_
    refine RL.move rfl ?_
    refine RL.move rfl ?_
    refine RL.fn0 rfl rfl rfl en18 (fun w hw => (f_rname a w)) rfl ?_
    rintro _ _ rfl
    refine RL.eqS rfl rfl rfl ?_
    rw [decide_eq_true rfl]
    refine RL.move rfl ?_
    refine RL.move rfl ?_
    refine RL.move rfl ?_
    refine RL.neS rfl rfl rfl ?_
    rw [decide_eq_false hab]
    show RL _ _ _ _ _ (updO _ _ (.bool true)) _ _
    refine RL.move rfl ?_
    refine RL.skip rfl ?_
    refine RL.skip rfl ?_
    refine RL.skip rfl ?_
    refine RL.pick_t rfl rfl ?_
    refine RL.move rfl ?_
    refine RL.skip rfl ?_
    refine RL.skip rfl ?_
    refine RL.pick_t rfl rfl ?_
    refine RL.pick_t rfl rfl ?_
    refine RL.move rfl ?_
    refine RL.fn0 rfl rfl rfl en10 (fun w hw => (f_awake w)) rfl ?_
    rintro _ _ rfl
    refine RL.pick_t rfl rfl ?_
    refine RL.assign rfl ?_
    refine RL.nil ?_
    refine X.ret ?_
    refine ret1 rfl ?_
    show (_ : Value) = _
    rfl
end Go.Proofs.Ytaklegcphmfghaa

/- The walk of FrameEnds. -/
import Derived.Test.YtekepfpkihnodaaB2
set_option linter.unusedVariables false
set_option linter.unusedSimpArgs false
namespace Go.Proofs.Ytekepfpkihnodaa
open Go.RowKit
attribute [local irreducible] X RL W Ctr
set_option maxHeartbeats 2000000 in
theorem w_ends (l : List Ins) (hmax : l.length ≤ 9223372036854775807) (A : Option Addr) (c : Nat) (hcap : l.length ≤ c) (w : World) (hrd : Rd w A (icells l)) (arg r v : Int) :
    Ctr Try.prog 4 [.slice A l.length c, .int .i64 arg, .int .i64 r, .int .i64 v] w [] fun v _ => v = .bool true := by
  have hrd1 := hrd
  refine Ctr.intro0 (n := 74) Try.func4 rfl Try.ntmps4 (Nat.le_of_ble_eq_true rfl) ?_
  refine X.seq ?_
  refine X.region rfl ?_
  refine RL.assign rfl ?_
  refine RL.nil ?_
  refine X.seq ?_
  refine X.seq ?_
  refine X.region rfl ?_
  refine RL.move rfl ?_
  refine RL.len rfl sl28 rfl ?_
  refine RL.cmp_s rfl rfl rfl rfl (fun h60 => ?_) (fun h60 => ?_)
  · replace h60 : (_ : Int) > _ := h60
    refine RL.nil ?_
    refine X.cond_t rfl ?_
    refine X.seq ?_
    refine X.region rfl ?_
    refine RL.fn0 rfl rfl rfl en10 (fun w hw => (f_awake w)) rfl ?_
    rintro _ _ rfl
    refine RL.assign rfl ?_
    refine RL.nil ?_
    refine X.ret ?_
    refine ret1 rfl ?_
    show (_ : Value) = _
    rfl
  · replace h60 : ¬ ((_ : Int) > _) := h60
    have hlen : l.length ≤ 1000 := by omega
    by_cases hv : Valid l 8
    · have h0 : 0 < l.length := by have := hv.len; omega
      refine RL.nil ?_
      refine X.cond_f rfl ?_
      refine X.skip ?_
      refine X.seq ?_
      refine X.region rfl ?_
      refine RL.move rfl ?_
      refine RL.move rfl ?_
      refine RL.fn0 rfl rfl rfl en8 (fun w hw => (f_new l hlen A c w (hrd1.st0 hw) hv arg)) rfl ?_
      rintro _ _ ⟨fb, Ac, cc, Lc, rfl, hcode, hs⟩
      refine RL.drop (L' := ([(fb, cel 53 [.slice Ac l.length cc, .int .i64 arg, .int .i64 0, .slice none 0 0, .bool false, .bool false])] ++ Lc)) rfl (hs.trans (List.sublist_append_left _ _)) ?_
      refine RL.move rfl ?_
      refine RL.extract rfl rfl rfl ?_
      refine RL.extract rfl rfl rfl ?_
      refine RL.assign rfl ?_
      refine RL.assign rfl ?_
      refine RL.nil ?_
      refine X.seq ?_
      refine X.seq ?_
      refine X.region rfl ?_
      refine RL.move rfl ?_
      refine RL.cmp_f rfl rfl rfl rfl (by show ¬ ((_ : Int) ≠ _); omega) ?_
      refine RL.nil ?_
      refine X.cond_f rfl ?_
      refine X.skip ?_
      refine X.seq ?_
      refine X.seq ?_
      refine X.region rfl ?_
      refine RL.assign rfl ?_
      refine RL.nil ?_
      refine X.block ?_
      refine X.loop (γ := Nat) (fun g ρ L => ∃ u : Int, ∃ t : Fr, ∃ A4 : Option Addr, ∃ cp4 : Nat, ∃ Lr4 : List Ent, (g ≤ t.pc) ∧ (t.over = false) ∧ (FrOk l t) ∧ (t.st.length ≤ 8) ∧ (Row 2 1 (.slice A4 t.st.length cp4) (ints t.st) Lr4) ∧ Has ρ [(0, .slice A l.length c), (2, .int .i64 r), (3, .int .i64 u), (9, .pointer (some ⟨fb, 0, none⟩)), (11, .int .i64 g)] ∧ L = Lr4 ++ ((fb, cel 53 [.slice Ac l.length cc, .int .i64 arg, .int .i64 t.pc, .slice A4 t.st.length cp4, .bool t.calls, .bool t.over]) :: Lc)) (fun g => l.length - g) (0) ⟨_, (by repeat (first | exact List.Sublist.refl _ | exact List.nil_sublist _ | (rw [List.append_nil]; exact List.Sublist.refl _) | exact List.sublist_append_left _ _ | exact (List.sublist_append_left _ _).trans (List.sublist_append_left _ _) | apply List.Sublist.cons_cons | apply List.Sublist.cons | refine List.Sublist.trans ?_ (List.sublist_append_right _ _))), v, ⟨0, [], false, false⟩, none, 0, [], Nat.zero_le _, rfl, FrOk.start hv, by simp, Row.nil, ⟨rfl, rfl, rfl, rfl, rfl, trivial⟩, rfl⟩ ?_
      rintro g _ _ ⟨u, t, A4, cp4, Lr4, hg, hover, hok, h84, hr4, hρ, rfl⟩
      obtain ⟨base, rfl⟩ := hρ.base
      clear hρ
      refine X.seq ?_
      refine X.seq ?_
      refine X.region rfl ?_
      refine RL.move rfl ?_
      refine RL.move rfl ?_
      refine RL.len rfl sl28 rfl ?_
      refine RL.cmp_s rfl rfl rfl rfl (fun hl => ?_) (fun hl => ?_)
      · replace hl : (_ : Int) < _ := hl
        rcases hN : nextP l arg r u t with ⟨ev, u2, t2⟩
        have hf := nextP_fine hv arg r u hok
        rw [hN] at hf
        obtain ⟨hok2, h82, hf2⟩ := hf
        obtain ⟨hp1, hp2, hp3⟩ := hf2 hover
        dsimp only at hok2 h82 hp1 hp2 hp3
        refine RL.nil ?_
        refine X.cond_t rfl ?_
        refine X.skip ?_
        refine X.seq ?_
        refine X.block ?_
        refine X.seq ?_
        refine X.region rfl ?_
        refine RL.move rfl ?_
        refine RL.move rfl ?_
        refine RL.move rfl ?_
        refine RL.fn (Lp := Lr4 ++ [(fb, cel 53 [.slice Ac l.length cc, .int .i64 arg, .int .i64 t.pc, .slice A4 t.st.length cp4, .bool t.calls, .bool t.over])]) (Lr := Lc) rfl rfl rfl en9 (by classical exact List.perm_iff_count.2 (fun z => by simp only [List.count_append, List.count_cons, List.count_nil, List.cons_append, List.nil_append, List.set_cons_zero, List.set_cons_succ] <;> omega)) (fun w1 hw1 => by
          obtain ⟨bc, e1, e2, e3⟩ := code_at hcode h0 hw1 (fun p hp => by simp [hp])
          have h := f_next l hv arg r u t hok Ac cc bc 0 fb A4 cp4 Lr4 hr4 h84 w1 (fun p hp => hw1.own p (List.mem_append_left _ hp)) (hw1.nodup.sublist ((List.sublist_append_left _ _).map _)) (fun _ => e1) e2 e3
          rw [hN] at h; exact h) rfl ?_
        rintro _ _ ⟨rfl, A5, cp5, Lr5, hr5, hs5⟩
        refine RL.drop (L' := Lr5 ++ ((fb, cel 53 [.slice Ac l.length cc, .int .i64 arg, .int .i64 t2.pc, .slice A5 t2.st.length cp5, .bool t2.calls, .bool t2.over]) :: Lc)) rfl ?_ ?_
        · have := hs5.append (List.Sublist.refl (Lc))
          rwa [List.append_assoc] at this
        refine RL.move rfl ?_
        refine RL.extract rfl rfl rfl ?_
        refine RL.extract rfl rfl rfl ?_
        refine RL.alloc rfl rfl zt30 ?_
        intro b12 hb12
        dsimp only at hb12
        refine RL.stA rfl rfl ag30.size rfl rfl (Ev.len _) rfl (Ev.one _) ?_
        refine RL.assign rfl ?_
        refine RL.nil ?_
        refine X.seq ?_
        refine X.seq ?_
        refine X.region rfl ?_
        refine RL.move rfl ?_
        refine RL.fn0 rfl rfl rfl en11 (fun w hw => (f_stk t2.st (by omega) A5 cp5 fb (.slice Ac l.length cc) (.int .i64 arg) (.int .i64 t2.pc) (.bool t2.calls) (.bool t2.over) 99 w (hw.own (fb, _) (by simp)) (row_rd hr5 hw (fun p hp => by simp [hp])))) rfl ?_
        rintro _ _ ⟨A6, cp6, Lr6, rfl, hr6, hs6⟩
        refine RL.drop rfl (List.sublist_append_right _ _) ?_
        refine RL.len rfl sl35 rfl ?_
        refine RL.cmp_f rfl rfl rfl rfl (by show ¬ ((_ : Int) > _); (simp only [List.length_take]; omega)) ?_
        refine RL.nil ?_
        refine X.cond_f rfl ?_
        refine X.skip ?_
        refine X.seq ?_
        refine X.region rfl ?_
        refine RL.move rfl ?_
        refine RL.assign rfl ?_
        refine RL.nil ?_
        refine X.seq ?_
        refine X.seq ?_
        refine X.region rfl ?_
        refine RL.fieldAddr rfl fd30_0 rfl ?_
        refine RL.loadO rfl sc3 rfl rfl ?_
        refine RL.cmp_s rfl rfl rfl rfl (fun hk => ?_) (fun hk => ?_)
        · replace hk : (_ : Int) ≠ _ := hk
          have ho2 : t2.over = false := by
            cases h : t2.over
            · rfl
            · exact absurd (hp3.2 h) hk
          have hp4 := hp2 ho2
          refine RL.nil ?_
          refine X.cond_t rfl ?_
          refine X.exit rfl ?_
          refine X.region rfl ?_
          refine RL.move rfl ?_
          refine RL.add rfl rfl rfl (by omega) ?_
          refine RL.assign rfl ?_
          refine RL.nil ?_
          refine X.hyp ⟨rfl, g + 1, by omega, _, (by repeat (first | exact List.Sublist.refl _ | exact List.nil_sublist _ | (rw [List.append_nil]; exact List.Sublist.refl _) | exact List.sublist_append_left _ _ | exact (List.sublist_append_left _ _).trans (List.sublist_append_left _ _) | apply List.Sublist.cons_cons | apply List.Sublist.cons | refine List.Sublist.trans ?_ (List.sublist_append_right _ _))), u2, t2, A5, cp5, Lr5, by omega, ho2, hok2, h82, hr5, ⟨rfl, rfl, rfl, rfl, rfl, trivial⟩, rfl⟩
        · replace hk : ¬ ((_ : Int) ≠ _) := hk
          have hk2 : ev.kind = 1 := Decidable.not_not.1 hk
          have ho2 : t2.over = true := hp3.1 hk2
          have hN2 : nextP l arg r u2 t2 = (⟨5, 0, 0, 0, 12⟩, u2, t2) := nextP_over ho2
          have hst0 : t2.st = [] := by unfold FrOk at hok2; rw [if_pos ho2] at hok2; exact hok2.1
          refine RL.nil ?_
          refine X.cond_f rfl ?_
          refine X.skip ?_
          refine X.seq ?_
          refine X.region rfl ?_
          refine RL.move rfl ?_
          refine RL.move rfl ?_
          refine RL.move rfl ?_
          refine RL.drop (L' := Lr5 ++ ((fb, cel 53 [.slice Ac l.length cc, .int .i64 arg, .int .i64 t2.pc, .slice A5 t2.st.length cp5, .bool t2.calls, .bool t2.over]) :: Lc)) rfl (List.sublist_cons_self _ _) ?_
          refine RL.fn (Lp := Lr5 ++ [(fb, cel 53 [.slice Ac l.length cc, .int .i64 arg, .int .i64 t2.pc, .slice A5 t2.st.length cp5, .bool t2.calls, .bool t2.over])]) (Lr := Lc) rfl rfl rfl en9 (by classical exact List.perm_iff_count.2 (fun z => by simp only [List.count_append, List.count_cons, List.count_nil, List.cons_append, List.nil_append, List.set_cons_zero, List.set_cons_succ] <;> omega)) (fun w1 hw1 => by
            obtain ⟨bc, e1, e2, e3⟩ := code_at hcode h0 hw1 (fun p hp => by simp [hp])
            have h := f_next l hv arg r u2 t2 hok2 Ac cc bc 0 fb A5 cp5 Lr5 hr5 h82 w1 (fun p hp => hw1.own p (List.mem_append_left _ hp)) (hw1.nodup.sublist ((List.sublist_append_left _ _).map _)) (fun _ => e1) e2 e3
            rw [hN2] at h; exact h) rfl ?_
          rintro _ _ ⟨rfl, A6, cp6, Lr6, hr6, hs6⟩
          refine RL.drop (L' := Lr6 ++ ((fb, cel 53 [.slice Ac l.length cc, .int .i64 arg, .int .i64 t2.pc, .slice A6 t2.st.length cp6, .bool t2.calls, .bool t2.over]) :: Lc)) rfl ?_ ?_
          · have := hs6.append (List.Sublist.refl (Lc))
            rwa [List.append_assoc] at this
          refine RL.move rfl ?_
          refine RL.extract rfl rfl rfl ?_
          refine RL.extract rfl rfl rfl ?_
          refine RL.alloc rfl rfl zt30 ?_
          intro b14 hb14
          dsimp only at hb14
          refine RL.stA rfl rfl ag30.size rfl rfl (Ev.len _) rfl (Ev.one _) ?_
          refine RL.assign rfl ?_
          refine RL.nil ?_
          refine X.seq ?_
          refine X.region rfl ?_
          refine RL.loadOA rfl ag30 rfl (take_all (Ev.len _)) (Ev.len _) ?_
          refine RL.bldC (vs := [(0, .int .i64 (5)), (4, .int .i64 (12))]) (cells := (⟨5, 0, 0, 0, 12⟩ : Ev).cells) rfl rfl (fun w => by kernel_rfl) ?_
          refine RL.eqA rfl eqg_ev rfl rfl (eq_ev _ _) (fun _ => ?_) (fun hne => absurd (rfl) hne)
          refine RL.move rfl ?_
          refine RL.move rfl ?_
          refine RL.move rfl ?_
          refine RL.cmp_t rfl rfl rfl rfl (by show ((_ : Int) = _); rfl) ?_
          refine RL.pick_t rfl rfl ?_
          refine RL.move rfl ?_
          refine RL.move rfl ?_
          refine RL.fn0 rfl rfl rfl en11 (fun w hw => (f_stk t2.st (by omega) A6 cp6 fb (.slice Ac l.length cc) (.int .i64 arg) (.int .i64 t2.pc) (.bool t2.calls) (.bool t2.over) 9 w (hw.own (fb, _) (by simp)) (row_rd hr6 hw (fun p hp => by simp [hp])))) rfl ?_
          rintro _ _ ⟨A7, cp7, Lr7, rfl, hr7, hs7⟩
          refine RL.drop rfl (List.sublist_append_right _ _) ?_
          refine RL.len rfl sl35 rfl ?_
          refine RL.cmp_t rfl rfl rfl rfl (by show ((_ : Int) = _); (rw [hst0]; rfl)) ?_
          refine RL.pick_t rfl rfl ?_
          refine RL.move rfl ?_
          refine RL.fn0 rfl rfl rfl en10 (fun w hw => (f_awake w)) rfl ?_
          rintro _ _ rfl
          refine RL.pick_t rfl rfl ?_
          refine RL.assign rfl ?_
          refine RL.nil ?_
          refine X.ret ?_
          refine ret1 rfl ?_
          show (_ : Value) = _
          rfl
      · replace hl : ¬ ((_ : Int) < _) := hl
        exact absurd hok.pc (by omega)
    · refine RL.nil ?_
      refine X.cond_f rfl ?_
      refine X.skip ?_
      refine X.seq ?_
      refine X.region rfl ?_
      refine RL.move rfl ?_
      refine RL.move rfl ?_
      refine RL.fn0 rfl rfl rfl en8 (fun w hw => (f_newx l hlen A c w (hrd1.st0 hw) (fun h => hv (valid_iff.1 h)) arg)) rfl ?_
      rintro _ _ rfl
      refine RL.move rfl ?_
      refine RL.extract rfl rfl rfl ?_
      refine RL.extract rfl rfl rfl ?_
      refine RL.assign rfl ?_
      refine RL.assign rfl ?_
      refine RL.nil ?_
      refine X.seq ?_
      refine X.seq ?_
      refine X.region rfl ?_
      refine RL.move rfl ?_
      refine RL.cmp_t rfl rfl rfl rfl (by show ((_ : Int) ≠ _); exact fun h => hv (valid_iff.1 h)) ?_
      refine RL.nil ?_
      refine X.cond_t rfl ?_
      refine X.seq ?_
      refine X.region rfl ?_
      refine RL.fn0 rfl rfl rfl en10 (fun w hw => (f_awake w)) rfl ?_
      rintro _ _ rfl
      refine RL.assign rfl ?_
      refine RL.nil ?_
      refine X.ret ?_
      refine ret1 rfl ?_
      show (_ : Value) = _
      rfl
end Go.Proofs.Ytekepfpkihnodaa

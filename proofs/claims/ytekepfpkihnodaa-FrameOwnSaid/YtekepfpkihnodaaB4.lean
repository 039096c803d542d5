/- The walk of FrameOwn. -/
import Derived.Test.YtekepfpkihnodaaB2
set_option linter.unusedVariables false
set_option linter.unusedSimpArgs false
namespace Go.Proofs.Ytekepfpkihnodaa
open Go.RowKit
attribute [local irreducible] X RL W Ctr
set_option maxHeartbeats 2000000 in
theorem w_own (l : List Ins) (hmax : l.length ≤ 9223372036854775807) (A : Option Addr) (c : Nat) (hcap : l.length ≤ c) (w : World) (hrd : Rd w A (icells l)) (arg k0 : Int) :
    Ctr Try.prog 5 [.slice A l.length c, .int .i64 arg, .int .i64 k0] w [] fun v _ => v = .bool true := by
  have hrd1 := hrd
  refine Ctr.intro0 (n := 94) Try.func5 rfl Try.ntmps5 (Nat.le_of_ble_eq_true rfl) ?_
  refine X.seq ?_
  refine X.region rfl ?_
  refine RL.assign rfl ?_
  refine RL.nil ?_
  refine X.seq ?_
  refine X.seq ?_
  refine X.region rfl ?_
  refine RL.move rfl ?_
  refine RL.len rfl sl28 rfl ?_
  refine RL.cmp_s rfl rfl rfl rfl (fun h60 => ?_) (fun h60 => ?_)
  · replace h60 : (_ : Int) > _ := h60
    refine RL.nil ?_
    refine X.cond_t rfl ?_
    refine X.seq ?_
    refine X.region rfl ?_
    refine RL.fn0 rfl rfl rfl en10 (fun w hw => (f_awake w)) rfl ?_
    rintro _ _ rfl
    refine RL.assign rfl ?_
    refine RL.nil ?_
    refine X.ret ?_
    refine ret1 rfl ?_
    show (_ : Value) = _
    rfl
  · replace h60 : ¬ ((_ : Int) > _) := h60
    have hlen : l.length ≤ 1000 := by omega
    obtain ⟨bb, oo, hA0, hc⟩ := hrd
    have hA : 0 < l.length → A = some ⟨bb, oo, none⟩ := fun h => hA0 (by rw [ecells_len Ins.len]; omega)
    by_cases hv : Valid l 8
    · have h0 : 0 < l.length := by have := hv.len; omega
      refine RL.nil ?_
      refine X.cond_f rfl ?_
      refine X.skip ?_
      refine X.seq ?_
      refine X.region rfl ?_
      refine RL.bs0 rfl rfl sl28 ?_
      intro b1 hb1
      refine RL.move rfl ?_
      refine RL.append (xs := []) (Lz := []) (Lr := [(b1, cel 27 [])]) (ys := icells l) rfl rfl sl28 el_ins (by decide) (by decide) Try.underlying28 (List.Perm.refl _) rfl (Row.blk b1 0 0 [] [] rfl rfl (Nat.le_refl _)) rfl (ecells_len Ins.len l) (ecells_one Ins.one l) (fun w2 hw2 => ?_) (fun m hm => by simp only [List.length_nil] at hm; omega) ?_
      · rcases Nat.eq_zero_or_pos l.length with h0 | h0
        · exact .inl (List.eq_nil_of_length_eq_zero (by rw [ecells_len Ins.len, h0]))
        · exact .inr ⟨bb, oo, hA h0, hw2.cellsI hc (by simp)⟩
      rw [List.nil_append]
      intro v2 Lr hrow
      obtain ⟨A2, m2, cp2, rfl, hm2, _, _⟩ := hrow.slice (by decide)
      obtain rfl : m2 = l.length := by rw [ecells_len Ins.len] at hm2; omega
      rw [List.append_nil]
      refine RL.assign rfl ?_
      refine RL.nil ?_
      refine X.seq ?_
      refine X.region rfl ?_
      refine RL.move rfl ?_
      refine RL.move rfl ?_
      refine RL.fn0 rfl rfl rfl en8 (fun w hw => (f_new l hlen A2 cp2 w (row_rd hrow hw (fun p hp => by simp [hp])) hv arg)) rfl ?_
      rintro _ _ ⟨fb, Af, cf, Lf, rfl, hcf, hs⟩
      refine RL.drop (L' := ([(fb, cel 53 [.slice Af l.length cf, .int .i64 arg, .int .i64 0, .slice none 0 0, .bool false, .bool false])] ++ Lf) ++ Lr) rfl (hs.append (List.Sublist.refl _)) ?_
      refine RL.move rfl ?_
      refine RL.extract rfl rfl rfl ?_
      refine RL.extract rfl rfl rfl ?_
      refine RL.assign rfl ?_
      refine RL.assign rfl ?_
      refine RL.nil ?_
      refine X.seq ?_
      refine X.region rfl ?_
      refine RL.move rfl ?_
      refine RL.move rfl ?_
      refine RL.fn0 rfl rfl rfl en8 (fun w hw => (f_new l hlen A c w (hrd1.st0 hw) hv arg)) rfl ?_
      rintro _ _ ⟨gb, Ag, cg, Lg, rfl, hcg, hs⟩
      refine RL.drop (L' := ([(gb, cel 53 [.slice Ag l.length cg, .int .i64 arg, .int .i64 0, .slice none 0 0, .bool false, .bool false])] ++ Lg) ++ (([(fb, cel 53 [.slice Af l.length cf, .int .i64 arg, .int .i64 0, .slice none 0 0, .bool false, .bool false])] ++ Lf) ++ Lr)) rfl (hs.append (List.Sublist.refl _)) ?_
      refine RL.perm (L' := Lr ++ ((fb, cel 53 [.slice Af l.length cf, .int .i64 arg, .int .i64 0, .slice none 0 0, .bool false, .bool false]) :: ((gb, cel 53 [.slice Ag l.length cg, .int .i64 arg, .int .i64 0, .slice none 0 0, .bool false, .bool false]) :: (Lf ++ Lg)))) rfl (by classical exact List.perm_iff_count.2 (fun z => by simp only [List.count_append, List.count_cons, List.count_nil, List.cons_append, List.nil_append, List.set_cons_zero, List.set_cons_succ] <;> omega)) ?_
      refine RL.move rfl ?_
      refine RL.extract rfl rfl rfl ?_
      refine RL.extract rfl rfl rfl ?_
      refine RL.assign rfl ?_
      refine RL.assign rfl ?_
      refine RL.nil ?_
      refine X.seq ?_
      refine X.seq ?_
      refine X.region rfl ?_
      refine RL.assign rfl ?_
      refine RL.nil ?_
      refine X.block ?_
      refine X.loop (γ := Nat) (fun g ρ L => ∃ Li : List Ent, (Over A2 l.length Li) ∧ Has ρ [(0, .slice A l.length c), (2, .int .i64 k0), (7, .slice A2 l.length cp2), (8, .pointer (some ⟨fb, 0, none⟩)), (9, .int .i64 0), (10, .pointer (some ⟨gb, 0, none⟩)), (12, .int .i64 g)] ∧ L = Li ++ ((fb, cel 53 [.slice Af l.length cf, .int .i64 arg, .int .i64 0, .slice none 0 0, .bool false, .bool false]) :: ((gb, cel 53 [.slice Ag l.length cg, .int .i64 arg, .int .i64 0, .slice none 0 0, .bool false, .bool false]) :: (Lf ++ Lg)))) (fun g => l.length - g) (0) ⟨_, (by repeat (first | exact List.Sublist.refl _ | exact List.nil_sublist _ | (rw [List.append_nil]; exact List.Sublist.refl _) | exact List.sublist_append_left _ _ | exact (List.sublist_append_left _ _).trans (List.sublist_append_left _ _) | apply List.Sublist.cons_cons | apply List.Sublist.cons | refine List.Sublist.trans ?_ (List.sublist_append_right _ _))), Lr, Over.start hrow, ⟨rfl, rfl, rfl, rfl, rfl, rfl, rfl, trivial⟩, rfl⟩ ?_
      rintro g _ _ ⟨Li, hov, hρ, rfl⟩
      obtain ⟨base, rfl⟩ := hρ.base
      clear hρ
      refine X.seq ?_
      refine X.seq ?_
      refine X.region rfl ?_
      refine RL.move rfl ?_
      refine RL.move rfl ?_
      refine RL.len rfl sl28 rfl ?_
      refine RL.cmp_s rfl rfl rfl rfl (fun hg => ?_) (fun hg => ?_)
      · replace hg : (_ : Int) < _ := hg
        obtain ⟨bi, cs, rfl, rfl, hcs⟩ := hov (by omega)
        refine RL.nil ?_
        refine X.cond_t rfl ?_
        refine X.skip ?_
        refine X.seq ?_
        refine X.block ?_
        refine X.region rfl ?_
        refine RL.move rfl ?_
        refine RL.move rfl ?_
        refine RL.bldC (vs := []) (cells := [.int .i64 0, .int .i64 0, .int .i64 0]) rfl rfl (fun w => by kernel_rfl) ?_
        refine RL.indexAddr rfl sl28 rfl rfl rfl rfl (by omega) ?_
        refine RL.storeG (ls := [.int .i64 0, .int .i64 0, .int .i64 0]) (l := cs) (fun l => l.take (0 + g * 3) ++ [.int .i64 0, .int .i64 0, .int .i64 0] ++ l.drop (0 + g * 3 + 3)) rfl rfl ag27.size rfl rfl rfl (by intro u hu; simp at hu; subst hu; rfl) (by simp; omega) rfl ?_
        refine RL.nil ?_
        refine X.blk ?_
        refine X.region rfl ?_
        refine RL.move rfl ?_
        refine RL.add rfl rfl rfl (by omega) ?_
        refine RL.assign rfl ?_
        refine RL.nil ?_
        refine X.hyp ⟨rfl, g + 1, by omega, _, (List.Sublist.refl _), _, fun _ => ⟨bi, _, rfl, rfl, by simp; omega⟩, ⟨rfl, rfl, rfl, rfl, rfl, rfl, rfl, trivial⟩, rfl⟩
      · replace hg : ¬ ((_ : Int) < _) := hg
        clear hov
        refine RL.nil ?_
        refine X.cond_f rfl ?_
        refine X.exit rfl ?_
        refine X.seq ?_
        refine X.seq ?_
        refine X.region rfl ?_
        refine RL.move rfl ?_
        refine RL.cmp_f rfl rfl rfl rfl (by show ¬ ((_ : Int) ≠ _); omega) ?_
        refine RL.nil ?_
        refine X.cond_f rfl ?_
        refine X.skip ?_
        refine X.seq ?_
        refine X.seq ?_
        refine X.region rfl ?_
        refine RL.assign rfl ?_
        refine RL.nil ?_
        refine X.block ?_
        refine X.loop (γ := Nat) (fun g ρ L => ∃ t : Fr, ∃ A4 : Option Addr, ∃ cp4 : Nat, ∃ Lr4 : List Ent, ∃ A5 : Option Addr, ∃ cp5 : Nat, ∃ Lr5 : List Ent, (FrOk l t) ∧ (t.st.length ≤ 8) ∧ (Row 2 1 (.slice A4 t.st.length cp4) (ints t.st) Lr4) ∧ (Row 2 1 (.slice A5 t.st.length cp5) (ints t.st) Lr5) ∧ Has ρ [(0, .slice A l.length c), (2, .int .i64 k0), (8, .pointer (some ⟨fb, 0, none⟩)), (10, .pointer (some ⟨gb, 0, none⟩)), (13, .int .i64 g)] ∧ L = Lr4 ++ ((fb, cel 53 [.slice Af l.length cf, .int .i64 arg, .int .i64 t.pc, .slice A4 t.st.length cp4, .bool t.calls, .bool t.over]) :: (Lr5 ++ ((gb, cel 53 [.slice Ag l.length cg, .int .i64 arg, .int .i64 t.pc, .slice A5 t.st.length cp5, .bool t.calls, .bool t.over]) :: (Lf ++ Lg))))) (fun g => l.length - g) (0) ⟨_, (List.sublist_append_right _ _), ⟨0, [], false, false⟩, none, 0, [], none, 0, [], FrOk.start hv, by simp, Row.nil, Row.nil, ⟨rfl, rfl, rfl, rfl, rfl, trivial⟩, rfl⟩ ?_
        rintro g _ _ ⟨t, A4, cp4, Lr4, A5, cp5, Lr5, hok, h84, hr4, hr5, hρ, rfl⟩
        obtain ⟨base, rfl⟩ := hρ.base
        clear hρ
        refine X.seq ?_
        refine X.seq ?_
        refine X.region rfl ?_
        refine RL.move rfl ?_
        refine RL.move rfl ?_
        refine RL.len rfl sl28 rfl ?_
        refine RL.cmp_s rfl rfl rfl rfl (fun hl => ?_) (fun hl => ?_)
        · replace hl : (_ : Int) < _ := hl
          rcases hN : nextP l arg 3 4 t with ⟨ev, u2, t2⟩
          have hf := nextP_fine hv arg 3 4 hok
          rw [hN] at hf
          obtain ⟨hok2, h82, _⟩ := hf
          dsimp only at hok2 h82
          refine RL.nil ?_
          refine X.cond_t rfl ?_
          refine X.skip ?_
          refine X.seq ?_
          refine X.block ?_
          refine X.seq ?_
          refine X.region rfl ?_
          refine RL.move rfl ?_
          refine RL.fn (Lp := Lr4 ++ [(fb, cel 53 [.slice Af l.length cf, .int .i64 arg, .int .i64 t.pc, .slice A4 t.st.length cp4, .bool t.calls, .bool t.over])]) (Lr := (Lr5 ++ ((gb, cel 53 [.slice Ag l.length cg, .int .i64 arg, .int .i64 t.pc, .slice A5 t.st.length cp5, .bool t.calls, .bool t.over]) :: (Lf ++ Lg)))) rfl rfl rfl en9 (by classical exact List.perm_iff_count.2 (fun z => by simp only [List.count_append, List.count_cons, List.count_nil, List.cons_append, List.nil_append, List.set_cons_zero, List.set_cons_succ] <;> omega)) (fun w1 hw1 => by
            obtain ⟨bc, e1, e2, e3⟩ := code_at hcf h0 hw1 (fun p hp => by simp [hp])
            have h := f_next l hv arg 3 4 t hok Af cf bc 0 fb A4 cp4 Lr4 hr4 h84 w1 (fun p hp => hw1.own p (List.mem_append_left _ hp)) (hw1.nodup.sublist ((List.sublist_append_left _ _).map _)) (fun _ => e1) e2 e3
            rw [hN] at h; exact h) rfl ?_
          rintro _ _ ⟨rfl, A6, cp6, Lr6, hr6, hs6⟩
          refine RL.drop (L' := Lr6 ++ ((fb, cel 53 [.slice Af l.length cf, .int .i64 arg, .int .i64 t2.pc, .slice A6 t2.st.length cp6, .bool t2.calls, .bool t2.over]) :: (Lr5 ++ ((gb, cel 53 [.slice Ag l.length cg, .int .i64 arg, .int .i64 t.pc, .slice A5 t.st.length cp5, .bool t.calls, .bool t.over]) :: (Lf ++ Lg))))) rfl ?_ ?_
          · have := hs6.append (List.Sublist.refl ((Lr5 ++ ((gb, cel 53 [.slice Ag l.length cg, .int .i64 arg, .int .i64 t.pc, .slice A5 t.st.length cp5, .bool t.calls, .bool t.over]) :: (Lf ++ Lg)))))
            rwa [List.append_assoc] at this
          refine RL.move rfl ?_
          refine RL.extract rfl rfl rfl ?_
          refine RL.extract rfl rfl rfl ?_
          refine RL.alloc rfl rfl zt30 ?_
          intro b14 hb14
          dsimp only at hb14
          refine RL.stA rfl rfl ag30.size rfl rfl (Ev.len _) rfl (Ev.one _) ?_
          refine RL.assign rfl ?_
          refine RL.nil ?_
          refine X.seq ?_
          refine X.region rfl ?_
          refine RL.move rfl ?_
          refine RL.fn (Lp := Lr5 ++ [(gb, cel 53 [.slice Ag l.length cg, .int .i64 arg, .int .i64 t.pc, .slice A5 t.st.length cp5, .bool t.calls, .bool t.over])]) (Lr := ((b14, cel 30 ev.cells) :: (Lr6 ++ ((fb, cel 53 [.slice Af l.length cf, .int .i64 arg, .int .i64 t2.pc, .slice A6 t2.st.length cp6, .bool t2.calls, .bool t2.over]) :: (Lf ++ Lg))))) rfl rfl rfl en9 (by classical exact List.perm_iff_count.2 (fun z => by simp only [List.count_append, List.count_cons, List.count_nil, List.cons_append, List.nil_append, List.set_cons_zero, List.set_cons_succ] <;> omega)) (fun w1 hw1 => by
            obtain ⟨bc, e1, e2, e3⟩ := code_at hcg h0 hw1 (fun p hp => by simp [hp])
            have h := f_next l hv arg 3 4 t hok Ag cg bc 0 gb A5 cp5 Lr5 hr5 h84 w1 (fun p hp => hw1.own p (List.mem_append_left _ hp)) (hw1.nodup.sublist ((List.sublist_append_left _ _).map _)) (fun _ => e1) e2 e3
            rw [hN] at h; exact h) rfl ?_
          rintro _ _ ⟨rfl, A7, cp7, Lr7, hr7, hs7⟩
          refine RL.drop (L' := Lr7 ++ ((gb, cel 53 [.slice Ag l.length cg, .int .i64 arg, .int .i64 t2.pc, .slice A7 t2.st.length cp7, .bool t2.calls, .bool t2.over]) :: ((b14, cel 30 ev.cells) :: (Lr6 ++ ((fb, cel 53 [.slice Af l.length cf, .int .i64 arg, .int .i64 t2.pc, .slice A6 t2.st.length cp6, .bool t2.calls, .bool t2.over]) :: (Lf ++ Lg)))))) rfl ?_ ?_
          · have := hs7.append (List.Sublist.refl (((b14, cel 30 ev.cells) :: (Lr6 ++ ((fb, cel 53 [.slice Af l.length cf, .int .i64 arg, .int .i64 t2.pc, .slice A6 t2.st.length cp6, .bool t2.calls, .bool t2.over]) :: (Lf ++ Lg))))))
            rwa [List.append_assoc] at this
          refine RL.perm (L' := Lr6 ++ ((fb, cel 53 [.slice Af l.length cf, .int .i64 arg, .int .i64 t2.pc, .slice A6 t2.st.length cp6, .bool t2.calls, .bool t2.over]) :: (Lr7 ++ ((gb, cel 53 [.slice Ag l.length cg, .int .i64 arg, .int .i64 t2.pc, .slice A7 t2.st.length cp7, .bool t2.calls, .bool t2.over]) :: (Lf ++ (Lg ++ [(b14, cel 30 ev.cells)])))))) rfl (by classical exact List.perm_iff_count.2 (fun z => by simp only [List.count_append, List.count_cons, List.count_nil, List.cons_append, List.nil_append, List.set_cons_zero, List.set_cons_succ] <;> omega)) ?_
          refine RL.move rfl ?_
          refine RL.extract rfl rfl rfl ?_
          refine RL.extract rfl rfl rfl ?_
          refine RL.alloc rfl rfl zt30 ?_
          intro b16 hb16
          dsimp only at hb16
          refine RL.stA rfl rfl ag30.size rfl rfl (Ev.len _) rfl (Ev.one _) ?_
          refine RL.assign rfl ?_
          refine RL.nil ?_
          refine X.seq ?_
          refine X.region rfl ?_
          refine RL.move rfl ?_
          refine RL.fn0 rfl rfl rfl en11 (fun w hw => (f_stk t2.st (by omega) A7 cp7 gb (.slice Ag l.length cg) (.int .i64 arg) (.int .i64 t2.pc) (.bool t2.calls) (.bool t2.over) 99 w (hw.own (gb, _) (by simp)) (row_rd hr7 hw (fun p hp => by simp [hp]))).mono (fun v L h => (by rw [List.take_of_length_le (by omega)] at h; exact h : ∃ A2 cp2 Lr2, v = .slice A2 t2.st.length cp2 ∧ Row 2 1 (.slice A2 t2.st.length cp2) (ints t2.st) Lr2 ∧ Lr2.Sublist L))) rfl ?_
          rintro _ _ ⟨A8, cp8, Lr8, rfl, hr8, hs8⟩
          refine RL.drop rfl (hs8.append (List.Sublist.refl _)) ?_
          refine RL.assign rfl ?_
          refine RL.nil ?_
          refine X.seq ?_
          refine X.region rfl ?_
          refine RL.move rfl ?_
          refine RL.move rfl ?_
          refine RL.len rfl sl35 rfl ?_
          refine RL.add rfl rfl rfl (by omega) ?_
          refine RL.fn0 rfl rfl rfl en12 (fun w hw => (f_pick k0 ((t2.st.length : Int) + 1) w (by omega) (by omega)).mono (fun v L h => (by obtain ⟨q2, h1, h2⟩ := pick_some (x := k0) (n := t2.st.length + 1) (by omega); exact ⟨q2, by rw [h, show ((t2.st.length : Int) + 1) = ((t2.st.length + 1 : Nat) : Int) by omega, h1], h2⟩ : ∃ k : Nat, v = .int .i64 (k : Int) ∧ k < t2.st.length + 1))) rfl ?_
          rintro _ _ ⟨k, rfl, hk⟩
          refine RL.drop rfl (List.sublist_append_right _ _) ?_
          refine RL.assign rfl ?_
          refine RL.nil ?_
          refine X.seq ?_
          refine X.set [.val (.agg ev.cells.toArray), .val (.agg ev.cells.toArray), .val (.bool false), .val (.bool false), .val (.int .i64 u2), .val (.int .i64 u2), .val (.bool false), .val (.bool false), .val (.bool false), .val (.pointer (some ⟨fb, 0, none⟩)), .val (.int .i64 k), .any, .val (.slice A8 t2.st.length cp8), .val (.int .i64 k), .val (.slice A8 (t2.st.take k).length cp8), .val (.bool true), .val (.bool false), .val (.bool false)] [[], [], [0, 1], [0, 1, 2], [0, 1, 2, 3], [0, 1, 2, 3], [0, 1, 2, 3, 4, 5], [0, 1, 2, 3, 4, 5, 6], [0, 1, 2, 3, 4, 5, 6, 7], [0, 1, 2, 3, 4, 5, 6, 7, 8], [0, 1, 2, 3, 4, 5, 6, 7, 8], [0, 1, 2, 3, 4, 5, 6, 7, 8, 9, 10], [0, 1, 2, 3, 4, 5, 6, 7, 8], [0, 1, 2, 3, 4, 5, 6, 7, 8], [0, 1, 2, 3, 4, 5, 6, 7, 8, 12, 13], [0, 1, 2, 3, 4, 5, 6, 7, 8, 9, 10, 11, 12, 13, 14], [0, 1, 2, 3, 4, 5, 6, 7, 8, 9, 10, 11, 12, 13, 14, 15], [0, 1, 2, 3, 4, 5, 6, 7, 8, 9, 10, 11, 12, 13, 14, 15, 16]] (fun D ρ L => (D 11 = false ∧ True ∧ Has ρ [] ∧ L.Perm (Lr8 ++ ((b16, cel 30 ev.cells) :: (Lr6 ++ ((fb, cel 53 [.slice Af l.length cf, .int .i64 arg, .int .i64 t2.pc, .slice A6 t2.st.length cp6, .bool t2.calls, .bool t2.over]) :: (Lr7 ++ ((gb, cel 53 [.slice Ag l.length cg, .int .i64 arg, .int .i64 t2.pc, .slice A7 t2.st.length cp7, .bool t2.calls, .bool t2.over]) :: (Lf ++ (Lg ++ [(b14, cel 30 ev.cells)]))))))))) ∨ (D 11 = true ∧ True ∧ ∃ A86 : Option Addr, ∃ cp86 : Nat, ∃ Lr86 : List Ent, (Row 2 1 (.slice A86 (t2.st.take k).length cp86) (ints (t2.st.take k)) Lr86) ∧ Has ρ [(86, .slice A86 (t2.st.take k).length cp86)] ∧ L.Perm ((Lr8 ++ ((b16, cel 30 ev.cells) :: (Lr6 ++ ((fb, cel 53 [.slice Af l.length cf, .int .i64 arg, .int .i64 t2.pc, .slice A6 t2.st.length cp6, .bool t2.calls, .bool t2.over]) :: (Lr7 ++ ((gb, cel 53 [.slice Ag l.length cg, .int .i64 arg, .int .i64 t2.pc, .slice A7 t2.st.length cp7, .bool t2.calls, .bool t2.over]) :: (Lf ++ (Lg ++ [(b14, cel 30 ev.cells)])))))))) ++ (Lr86)))) rfl (by kernel_rfl) (by kernel_rfl) (by kernel_rfl) (by kernel_rfl) (fun D hD => .inl ⟨hD 11, trivial, trivial, (List.Perm.refl _)⟩) ⟨?_, ?_, ?_, ?_, ?_, ?_, ?_, ?_, ?_, ?_, ?_, ?_, ?_, ?_, ?_, ?_, ?_, ?_, trivial⟩ ?_
          · intro ρ L D hS
            rcases hS.sp with ⟨e11, -, hρ, hL⟩ | ⟨e11, -, A86, cp86, Lr86, hp0, hρ, hL⟩
            · have u14 : ρ 14 = .pointer (some ⟨b14, 0, none⟩) := hS.fix 14 (by decide)
              clear hS hρ
              obtain ⟨base, rfl⟩ := Has.base (ρ := ρ) (l := [(14, .pointer (some ⟨b14, 0, none⟩))]) ⟨u14, trivial⟩
              clear u14
              refine RL.perm (L' := (Lr8 ++ ((b16, cel 30 ev.cells) :: (Lr6 ++ ((fb, cel 53 [.slice Af l.length cf, .int .i64 arg, .int .i64 t2.pc, .slice A6 t2.st.length cp6, .bool t2.calls, .bool t2.over]) :: (Lr7 ++ ((gb, cel 53 [.slice Ag l.length cg, .int .i64 arg, .int .i64 t2.pc, .slice A7 t2.st.length cp7, .bool t2.calls, .bool t2.over]) :: (Lf ++ (Lg ++ [(b14, cel 30 ev.cells)]))))))))) rfl hL.symm ?_
              clear hL
              refine RL.loadOA rfl ag30 rfl (take_all (Ev.len _)) (Ev.len _) ?_
              refine RL.nil ?_
              exact ⟨rfl, ⟨_, rfl, rfl⟩, .inl ⟨e11, trivial, trivial, List.Perm.refl _⟩⟩
            · exact hS.hi 11 rfl (by kernel_rfl) e11
          · intro ρ L D hS
            rcases hS.sp with ⟨e11, -, hρ, hL⟩ | ⟨e11, -, A86, cp86, Lr86, hp0, hρ, hL⟩
            · have u16 : ρ 16 = .pointer (some ⟨b16, 0, none⟩) := hS.fix 16 (by decide)
              clear hS hρ
              obtain ⟨base, rfl⟩ := Has.base (ρ := ρ) (l := [(16, .pointer (some ⟨b16, 0, none⟩))]) ⟨u16, trivial⟩
              clear u16
              refine RL.perm (L' := (Lr8 ++ ((b16, cel 30 ev.cells) :: (Lr6 ++ ((fb, cel 53 [.slice Af l.length cf, .int .i64 arg, .int .i64 t2.pc, .slice A6 t2.st.length cp6, .bool t2.calls, .bool t2.over]) :: (Lr7 ++ ((gb, cel 53 [.slice Ag l.length cg, .int .i64 arg, .int .i64 t2.pc, .slice A7 t2.st.length cp7, .bool t2.calls, .bool t2.over]) :: (Lf ++ (Lg ++ [(b14, cel 30 ev.cells)]))))))))) rfl hL.symm ?_
              clear hL
              refine RL.loadOA rfl ag30 rfl (take_all (Ev.len _)) (Ev.len _) ?_
              refine RL.nil ?_
              exact ⟨rfl, ⟨_, rfl, rfl⟩, .inl ⟨e11, trivial, trivial, List.Perm.refl _⟩⟩
            · exact hS.hi 11 rfl (by kernel_rfl) e11
          · intro ρ L D hS
            rcases hS.sp with ⟨e11, -, hρ, hL⟩ | ⟨e11, -, A86, cp86, Lr86, hp0, hρ, hL⟩
            · have u75 : ρ 75 = .agg ev.cells.toArray := hS.dep ⟨0, Ground.data⟩ (by simp) rfl _ _ rfl rfl
              have u76 : ρ 76 = .agg ev.cells.toArray := hS.dep ⟨1, Ground.data⟩ (by simp) rfl _ _ rfl rfl
              clear hS hρ
              obtain ⟨base, rfl⟩ := Has.base (ρ := ρ) (l := [(75, .agg ev.cells.toArray), (76, .agg ev.cells.toArray)]) ⟨u75, u76, trivial⟩
              clear u75 u76
              refine RL.perm (L' := (Lr8 ++ ((b16, cel 30 ev.cells) :: (Lr6 ++ ((fb, cel 53 [.slice Af l.length cf, .int .i64 arg, .int .i64 t2.pc, .slice A6 t2.st.length cp6, .bool t2.calls, .bool t2.over]) :: (Lr7 ++ ((gb, cel 53 [.slice Ag l.length cg, .int .i64 arg, .int .i64 t2.pc, .slice A7 t2.st.length cp7, .bool t2.calls, .bool t2.over]) :: (Lf ++ (Lg ++ [(b14, cel 30 ev.cells)]))))))))) rfl hL.symm ?_
              clear hL
              refine RL.neA rfl eqg_ev rfl rfl (eq_ev _ _) (fun hne => absurd rfl hne) (fun _ => ?_)
              refine RL.nil ?_
              exact ⟨rfl, ⟨_, rfl, rfl⟩, .inl ⟨e11, trivial, trivial, List.Perm.refl _⟩⟩
            · exact hS.hi 11 rfl (by kernel_rfl) e11
          · intro ρ L D hS
            rcases hS.sp with ⟨e11, -, hρ, hL⟩ | ⟨e11, -, A86, cp86, Lr86, hp0, hρ, hL⟩
            · have u77 : ρ 77 = .bool false := hS.dep ⟨2, Ground.data⟩ (by simp) rfl _ _ rfl rfl
              clear hS hρ
              obtain ⟨base, rfl⟩ := Has.base (ρ := ρ) (l := [(77, .bool false)]) ⟨u77, trivial⟩
              clear u77
              refine RL.perm (L' := (Lr8 ++ ((b16, cel 30 ev.cells) :: (Lr6 ++ ((fb, cel 53 [.slice Af l.length cf, .int .i64 arg, .int .i64 t2.pc, .slice A6 t2.st.length cp6, .bool t2.calls, .bool t2.over]) :: (Lr7 ++ ((gb, cel 53 [.slice Ag l.length cg, .int .i64 arg, .int .i64 t2.pc, .slice A7 t2.st.length cp7, .bool t2.calls, .bool t2.over]) :: (Lf ++ (Lg ++ [(b14, cel 30 ev.cells)]))))))))) rfl hL.symm ?_
              clear hL
              refine RL.move rfl ?_
              refine RL.nil ?_
              exact ⟨rfl, ⟨_, rfl, rfl⟩, .inl ⟨e11, trivial, trivial, List.Perm.refl _⟩⟩
            · exact hS.hi 11 rfl (by kernel_rfl) e11
          · intro ρ L D hS
            rcases hS.sp with ⟨e11, -, hρ, hL⟩ | ⟨e11, -, A86, cp86, Lr86, hp0, hρ, hL⟩
            · have u15 : ρ 15 = .int .i64 u2 := hS.fix 15 (by decide)
              have u78 : ρ 78 = .bool false := hS.dep ⟨3, Ground.guard⟩ (by simp) rfl _ _ rfl rfl
              clear hS hρ
              obtain ⟨base, rfl⟩ := Has.base (ρ := ρ) (l := [(15, .int .i64 u2), (78, .bool false)]) ⟨u15, u78, trivial⟩
              clear u15 u78
              refine RL.perm (L' := (Lr8 ++ ((b16, cel 30 ev.cells) :: (Lr6 ++ ((fb, cel 53 [.slice Af l.length cf, .int .i64 arg, .int .i64 t2.pc, .slice A6 t2.st.length cp6, .bool t2.calls, .bool t2.over]) :: (Lr7 ++ ((gb, cel 53 [.slice Ag l.length cg, .int .i64 arg, .int .i64 t2.pc, .slice A7 t2.st.length cp7, .bool t2.calls, .bool t2.over]) :: (Lf ++ (Lg ++ [(b14, cel 30 ev.cells)]))))))))) rfl hL.symm ?_
              clear hL
              refine RL.move rfl ?_
              refine RL.nil ?_
              exact ⟨rfl, ⟨_, rfl, rfl⟩, .inl ⟨e11, trivial, trivial, List.Perm.refl _⟩⟩
            · exact hS.hi 11 rfl (by kernel_rfl) e11
          · intro ρ L D hS
            rcases hS.sp with ⟨e11, -, hρ, hL⟩ | ⟨e11, -, A86, cp86, Lr86, hp0, hρ, hL⟩
            · have u17 : ρ 17 = .int .i64 u2 := hS.fix 17 (by decide)
              have u78 : ρ 78 = .bool false := hS.dep ⟨3, Ground.guard⟩ (by simp) rfl _ _ rfl rfl
              clear hS hρ
              obtain ⟨base, rfl⟩ := Has.base (ρ := ρ) (l := [(17, .int .i64 u2), (78, .bool false)]) ⟨u17, u78, trivial⟩
              clear u17 u78
              refine RL.perm (L' := (Lr8 ++ ((b16, cel 30 ev.cells) :: (Lr6 ++ ((fb, cel 53 [.slice Af l.length cf, .int .i64 arg, .int .i64 t2.pc, .slice A6 t2.st.length cp6, .bool t2.calls, .bool t2.over]) :: (Lr7 ++ ((gb, cel 53 [.slice Ag l.length cg, .int .i64 arg, .int .i64 t2.pc, .slice A7 t2.st.length cp7, .bool t2.calls, .bool t2.over]) :: (Lf ++ (Lg ++ [(b14, cel 30 ev.cells)]))))))))) rfl hL.symm ?_
              clear hL
              refine RL.move rfl ?_
              refine RL.nil ?_
              exact ⟨rfl, ⟨_, rfl, rfl⟩, .inl ⟨e11, trivial, trivial, List.Perm.refl _⟩⟩
            · exact hS.hi 11 rfl (by kernel_rfl) e11
          · intro ρ L D hS
            rcases hS.sp with ⟨e11, -, hρ, hL⟩ | ⟨e11, -, A86, cp86, Lr86, hp0, hρ, hL⟩
            · have u78 : ρ 78 = .bool false := hS.dep ⟨3, Ground.guard⟩ (by simp) rfl _ _ rfl rfl
              have u79 : ρ 79 = .int .i64 u2 := hS.dep ⟨4, Ground.data⟩ (by simp) rfl _ _ rfl rfl
              have u80 : ρ 80 = .int .i64 u2 := hS.dep ⟨5, Ground.data⟩ (by simp) rfl _ _ rfl rfl
              clear hS hρ
              obtain ⟨base, rfl⟩ := Has.base (ρ := ρ) (l := [(78, .bool false), (79, .int .i64 u2), (80, .int .i64 u2)]) ⟨u78, u79, u80, trivial⟩
              clear u78 u79 u80
              refine RL.perm (L' := (Lr8 ++ ((b16, cel 30 ev.cells) :: (Lr6 ++ ((fb, cel 53 [.slice Af l.length cf, .int .i64 arg, .int .i64 t2.pc, .slice A6 t2.st.length cp6, .bool t2.calls, .bool t2.over]) :: (Lr7 ++ ((gb, cel 53 [.slice Ag l.length cg, .int .i64 arg, .int .i64 t2.pc, .slice A7 t2.st.length cp7, .bool t2.calls, .bool t2.over]) :: (Lf ++ (Lg ++ [(b14, cel 30 ev.cells)]))))))))) rfl hL.symm ?_
              clear hL
              refine RL.cmp_f rfl rfl rfl rfl (by show ¬ ((_ : Int) ≠ _); exact fun h => h rfl) ?_
              refine RL.nil ?_
              exact ⟨rfl, ⟨_, rfl, rfl⟩, .inl ⟨e11, trivial, trivial, List.Perm.refl _⟩⟩
            · exact hS.hi 11 rfl (by kernel_rfl) e11
          · intro ρ L D hS
            rcases hS.sp with ⟨e11, -, hρ, hL⟩ | ⟨e11, -, A86, cp86, Lr86, hp0, hρ, hL⟩
            · have u78 : ρ 78 = .bool false := hS.dep ⟨3, Ground.data⟩ (by simp) rfl _ _ rfl rfl
              have u81 : ρ 81 = .bool false := hS.dep ⟨6, Ground.data⟩ (by simp) rfl _ _ rfl rfl
              clear hS hρ
              obtain ⟨base, rfl⟩ := Has.base (ρ := ρ) (l := [(78, .bool false), (81, .bool false)]) ⟨u78, u81, trivial⟩
              clear u78 u81
              refine RL.perm (L' := (Lr8 ++ ((b16, cel 30 ev.cells) :: (Lr6 ++ ((fb, cel 53 [.slice Af l.length cf, .int .i64 arg, .int .i64 t2.pc, .slice A6 t2.st.length cp6, .bool t2.calls, .bool t2.over]) :: (Lr7 ++ ((gb, cel 53 [.slice Ag l.length cg, .int .i64 arg, .int .i64 t2.pc, .slice A7 t2.st.length cp7, .bool t2.calls, .bool t2.over]) :: (Lf ++ (Lg ++ [(b14, cel 30 ev.cells)]))))))))) rfl hL.symm ?_
              clear hL
              refine RL.pick_f rfl rfl ?_
              refine RL.nil ?_
              exact ⟨rfl, ⟨_, rfl, rfl⟩, .inl ⟨e11, trivial, trivial, List.Perm.refl _⟩⟩
            · exact hS.hi 11 rfl (by kernel_rfl) e11
          · intro ρ L D hS
            rcases hS.sp with ⟨e11, -, hρ, hL⟩ | ⟨e11, -, A86, cp86, Lr86, hp0, hρ, hL⟩
            · have u82 : ρ 82 = .bool false := hS.dep ⟨7, Ground.data⟩ (by simp) rfl _ _ rfl rfl
              clear hS hρ
              obtain ⟨base, rfl⟩ := Has.base (ρ := ρ) (l := [(82, .bool false)]) ⟨u82, trivial⟩
              clear u82
              refine RL.perm (L' := (Lr8 ++ ((b16, cel 30 ev.cells) :: (Lr6 ++ ((fb, cel 53 [.slice Af l.length cf, .int .i64 arg, .int .i64 t2.pc, .slice A6 t2.st.length cp6, .bool t2.calls, .bool t2.over]) :: (Lr7 ++ ((gb, cel 53 [.slice Ag l.length cg, .int .i64 arg, .int .i64 t2.pc, .slice A7 t2.st.length cp7, .bool t2.calls, .bool t2.over]) :: (Lf ++ (Lg ++ [(b14, cel 30 ev.cells)]))))))))) rfl hL.symm ?_
              clear hL
              refine RL.move rfl ?_
              refine RL.nil ?_
              exact ⟨rfl, ⟨_, rfl, rfl⟩, .inl ⟨e11, trivial, trivial, List.Perm.refl _⟩⟩
            · exact hS.hi 11 rfl (by kernel_rfl) e11
          · intro ρ L D hS
            rcases hS.sp with ⟨e11, -, hρ, hL⟩ | ⟨e11, -, A86, cp86, Lr86, hp0, hρ, hL⟩
            · have u8 : ρ 8 = .pointer (some ⟨fb, 0, none⟩) := hS.fix 8 (by decide)
              have u83 : ρ 83 = .bool false := hS.dep ⟨8, Ground.guard⟩ (by simp) rfl _ _ rfl rfl
              clear hS hρ
              obtain ⟨base, rfl⟩ := Has.base (ρ := ρ) (l := [(8, .pointer (some ⟨fb, 0, none⟩)), (83, .bool false)]) ⟨u8, u83, trivial⟩
              clear u8 u83
              refine RL.perm (L' := (Lr8 ++ ((b16, cel 30 ev.cells) :: (Lr6 ++ ((fb, cel 53 [.slice Af l.length cf, .int .i64 arg, .int .i64 t2.pc, .slice A6 t2.st.length cp6, .bool t2.calls, .bool t2.over]) :: (Lr7 ++ ((gb, cel 53 [.slice Ag l.length cg, .int .i64 arg, .int .i64 t2.pc, .slice A7 t2.st.length cp7, .bool t2.calls, .bool t2.over]) :: (Lf ++ (Lg ++ [(b14, cel 30 ev.cells)]))))))))) rfl hL.symm ?_
              clear hL
              refine RL.move rfl ?_
              refine RL.nil ?_
              exact ⟨rfl, ⟨_, rfl, rfl⟩, .inl ⟨e11, trivial, trivial, List.Perm.refl _⟩⟩
            · exact hS.hi 11 rfl (by kernel_rfl) e11
          · intro ρ L D hS
            rcases hS.sp with ⟨e11, -, hρ, hL⟩ | ⟨e11, -, A86, cp86, Lr86, hp0, hρ, hL⟩
            · have u19 : ρ 19 = .int .i64 k := hS.fix 19 (by decide)
              have u83 : ρ 83 = .bool false := hS.dep ⟨8, Ground.guard⟩ (by simp) rfl _ _ rfl rfl
              clear hS hρ
              obtain ⟨base, rfl⟩ := Has.base (ρ := ρ) (l := [(19, .int .i64 k), (83, .bool false)]) ⟨u19, u83, trivial⟩
              clear u19 u83
              refine RL.perm (L' := (Lr8 ++ ((b16, cel 30 ev.cells) :: (Lr6 ++ ((fb, cel 53 [.slice Af l.length cf, .int .i64 arg, .int .i64 t2.pc, .slice A6 t2.st.length cp6, .bool t2.calls, .bool t2.over]) :: (Lr7 ++ ((gb, cel 53 [.slice Ag l.length cg, .int .i64 arg, .int .i64 t2.pc, .slice A7 t2.st.length cp7, .bool t2.calls, .bool t2.over]) :: (Lf ++ (Lg ++ [(b14, cel 30 ev.cells)]))))))))) rfl hL.symm ?_
              clear hL
              refine RL.move rfl ?_
              refine RL.nil ?_
              exact ⟨rfl, ⟨_, rfl, rfl⟩, .inl ⟨e11, trivial, trivial, List.Perm.refl _⟩⟩
            · exact hS.hi 11 rfl (by kernel_rfl) e11
          · intro ρ L D hS
            rcases hS.sp with ⟨e11, -, hρ, hL⟩ | ⟨e11, -, A86, cp86, Lr86, hp0, hρ, hL⟩
            · have u83 : ρ 83 = .bool false := hS.dep ⟨8, Ground.chain⟩ (by simp) rfl _ _ rfl rfl
              have u84 : ρ 84 = .pointer (some ⟨fb, 0, none⟩) := hS.dep ⟨9, Ground.data⟩ (by simp) rfl _ _ rfl rfl
              have u85 : ρ 85 = .int .i64 k := hS.dep ⟨10, Ground.data⟩ (by simp) rfl _ _ rfl rfl
              clear hS hρ
              obtain ⟨base, rfl⟩ := Has.base (ρ := ρ) (l := [(83, .bool false), (84, .pointer (some ⟨fb, 0, none⟩)), (85, .int .i64 k)]) ⟨u83, u84, u85, trivial⟩
              clear u83 u84 u85
              refine RL.perm (L' := (Lr8 ++ ((b16, cel 30 ev.cells) :: (Lr6 ++ ((fb, cel 53 [.slice Af l.length cf, .int .i64 arg, .int .i64 t2.pc, .slice A6 t2.st.length cp6, .bool t2.calls, .bool t2.over]) :: (Lr7 ++ ((gb, cel 53 [.slice Ag l.length cg, .int .i64 arg, .int .i64 t2.pc, .slice A7 t2.st.length cp7, .bool t2.calls, .bool t2.over]) :: (Lf ++ (Lg ++ [(b14, cel 30 ev.cells)]))))))))) rfl hL.symm ?_
              clear hL
              refine RL.fn0 rfl rfl rfl en11 (fun w hw => (f_stk t2.st (by omega) A6 cp6 fb (.slice Af l.length cf) (.int .i64 arg) (.int .i64 t2.pc) (.bool t2.calls) (.bool t2.over) k w (hw.own (fb, _) (by simp)) (row_rd hr6 hw (fun p hp => by simp [hp])))) rfl ?_
              rintro _ _ ⟨A86, cp86, Lr86, rfl, hr86, hs86⟩
              refine RL.drop rfl (hs86.append (List.Sublist.refl _)) ?_
              refine RL.nil ?_
              exact ⟨rfl, ⟨_, rfl, trivial⟩, .inr (⟨rfl, trivial, A86, cp86, Lr86, hr86, ⟨rfl, trivial⟩, (by classical exact List.perm_iff_count.2 (fun z => by simp only [List.count_append, List.count_cons, List.count_nil, List.cons_append, List.nil_append, List.append_nil, List.set_cons_zero, List.set_cons_succ] <;> omega))⟩)⟩
            · exact hS.me e11
          · intro ρ L D hS
            rcases hS.sp with ⟨e11, -, hρ, hL⟩ | ⟨e11, -, A86, cp86, Lr86, hp0, hρ, hL⟩
            · have u18 : ρ 18 = .slice A8 t2.st.length cp8 := hS.fix 18 (by decide)
              have u83 : ρ 83 = .bool false := hS.dep ⟨8, Ground.guard⟩ (by simp) rfl _ _ rfl rfl
              clear hS hρ
              obtain ⟨base, rfl⟩ := Has.base (ρ := ρ) (l := [(18, .slice A8 t2.st.length cp8), (83, .bool false)]) ⟨u18, u83, trivial⟩
              clear u18 u83
              refine RL.perm (L' := (Lr8 ++ ((b16, cel 30 ev.cells) :: (Lr6 ++ ((fb, cel 53 [.slice Af l.length cf, .int .i64 arg, .int .i64 t2.pc, .slice A6 t2.st.length cp6, .bool t2.calls, .bool t2.over]) :: (Lr7 ++ ((gb, cel 53 [.slice Ag l.length cg, .int .i64 arg, .int .i64 t2.pc, .slice A7 t2.st.length cp7, .bool t2.calls, .bool t2.over]) :: (Lf ++ (Lg ++ [(b14, cel 30 ev.cells)]))))))))) rfl hL.symm ?_
              clear hL
              refine RL.move rfl ?_
              refine RL.nil ?_
              exact ⟨rfl, ⟨_, rfl, rfl⟩, .inl ⟨e11, trivial, trivial, List.Perm.refl _⟩⟩
            · have u18 : ρ 18 = .slice A8 t2.st.length cp8 := hS.fix 18 (by decide)
              have u83 : ρ 83 = .bool false := hS.dep ⟨8, Ground.guard⟩ (by simp) rfl _ _ rfl rfl
              have u86 : ρ 86 = .slice A86 (t2.st.take k).length cp86 := hρ.1
              clear hS hρ
              obtain ⟨base, rfl⟩ := Has.base (ρ := ρ) (l := [(18, .slice A8 t2.st.length cp8), (83, .bool false), (86, .slice A86 (t2.st.take k).length cp86)]) ⟨u18, u83, u86, trivial⟩
              clear u18 u83 u86
              refine RL.perm (L' := ((Lr8 ++ ((b16, cel 30 ev.cells) :: (Lr6 ++ ((fb, cel 53 [.slice Af l.length cf, .int .i64 arg, .int .i64 t2.pc, .slice A6 t2.st.length cp6, .bool t2.calls, .bool t2.over]) :: (Lr7 ++ ((gb, cel 53 [.slice Ag l.length cg, .int .i64 arg, .int .i64 t2.pc, .slice A7 t2.st.length cp7, .bool t2.calls, .bool t2.over]) :: (Lf ++ (Lg ++ [(b14, cel 30 ev.cells)])))))))) ++ (Lr86))) rfl hL.symm ?_
              clear hL
              refine RL.move rfl ?_
              refine RL.nil ?_
              exact ⟨rfl, ⟨_, rfl, rfl⟩, .inr (⟨e11, trivial, A86, cp86, Lr86, hp0, ⟨rfl, trivial⟩, List.Perm.refl _⟩)⟩
          · intro ρ L D hS
            rcases hS.sp with ⟨e11, -, hρ, hL⟩ | ⟨e11, -, A86, cp86, Lr86, hp0, hρ, hL⟩
            · have u19 : ρ 19 = .int .i64 k := hS.fix 19 (by decide)
              have u83 : ρ 83 = .bool false := hS.dep ⟨8, Ground.guard⟩ (by simp) rfl _ _ rfl rfl
              clear hS hρ
              obtain ⟨base, rfl⟩ := Has.base (ρ := ρ) (l := [(19, .int .i64 k), (83, .bool false)]) ⟨u19, u83, trivial⟩
              clear u19 u83
              refine RL.perm (L' := (Lr8 ++ ((b16, cel 30 ev.cells) :: (Lr6 ++ ((fb, cel 53 [.slice Af l.length cf, .int .i64 arg, .int .i64 t2.pc, .slice A6 t2.st.length cp6, .bool t2.calls, .bool t2.over]) :: (Lr7 ++ ((gb, cel 53 [.slice Ag l.length cg, .int .i64 arg, .int .i64 t2.pc, .slice A7 t2.st.length cp7, .bool t2.calls, .bool t2.over]) :: (Lf ++ (Lg ++ [(b14, cel 30 ev.cells)]))))))))) rfl hL.symm ?_
              clear hL
              refine RL.move rfl ?_
              refine RL.nil ?_
              exact ⟨rfl, ⟨_, rfl, rfl⟩, .inl ⟨e11, trivial, trivial, List.Perm.refl _⟩⟩
            · have u19 : ρ 19 = .int .i64 k := hS.fix 19 (by decide)
              have u83 : ρ 83 = .bool false := hS.dep ⟨8, Ground.guard⟩ (by simp) rfl _ _ rfl rfl
              have u86 : ρ 86 = .slice A86 (t2.st.take k).length cp86 := hρ.1
              clear hS hρ
              obtain ⟨base, rfl⟩ := Has.base (ρ := ρ) (l := [(19, .int .i64 k), (83, .bool false), (86, .slice A86 (t2.st.take k).length cp86)]) ⟨u19, u83, u86, trivial⟩
              clear u19 u83 u86
              refine RL.perm (L' := ((Lr8 ++ ((b16, cel 30 ev.cells) :: (Lr6 ++ ((fb, cel 53 [.slice Af l.length cf, .int .i64 arg, .int .i64 t2.pc, .slice A6 t2.st.length cp6, .bool t2.calls, .bool t2.over]) :: (Lr7 ++ ((gb, cel 53 [.slice Ag l.length cg, .int .i64 arg, .int .i64 t2.pc, .slice A7 t2.st.length cp7, .bool t2.calls, .bool t2.over]) :: (Lf ++ (Lg ++ [(b14, cel 30 ev.cells)])))))))) ++ (Lr86))) rfl hL.symm ?_
              clear hL
              refine RL.move rfl ?_
              refine RL.nil ?_
              exact ⟨rfl, ⟨_, rfl, rfl⟩, .inr (⟨e11, trivial, A86, cp86, Lr86, hp0, ⟨rfl, trivial⟩, List.Perm.refl _⟩)⟩
          · intro ρ L D hS
            rcases hS.sp with ⟨e11, -, hρ, hL⟩ | ⟨e11, -, A86, cp86, Lr86, hp0, hρ, hL⟩
            · have u83 : ρ 83 = .bool false := hS.dep ⟨8, Ground.guard⟩ (by simp) rfl _ _ rfl rfl
              have u87 : ρ 87 = .slice A8 t2.st.length cp8 := hS.dep ⟨12, Ground.data⟩ (by simp) rfl _ _ rfl rfl
              have u88 : ρ 88 = .int .i64 k := hS.dep ⟨13, Ground.data⟩ (by simp) rfl _ _ rfl rfl
              clear hS hρ
              obtain ⟨base, rfl⟩ := Has.base (ρ := ρ) (l := [(83, .bool false), (87, .slice A8 t2.st.length cp8), (88, .int .i64 k)]) ⟨u83, u87, u88, trivial⟩
              clear u83 u87 u88
              refine RL.perm (L' := (Lr8 ++ ((b16, cel 30 ev.cells) :: (Lr6 ++ ((fb, cel 53 [.slice Af l.length cf, .int .i64 arg, .int .i64 t2.pc, .slice A6 t2.st.length cp6, .bool t2.calls, .bool t2.over]) :: (Lr7 ++ ((gb, cel 53 [.slice Ag l.length cg, .int .i64 arg, .int .i64 t2.pc, .slice A7 t2.st.length cp7, .bool t2.calls, .bool t2.over]) :: (Lf ++ (Lg ++ [(b14, cel 30 ev.cells)]))))))))) rfl hL.symm ?_
              clear hL
              have hcp8 := row_cap hr8
              refine RL.sliceHi (j := (t2.st.take k).length) rfl sl35 rfl rfl (by rw [List.length_take]; omega) (by rw [List.length_take]; omega) ?_
              rw [hr8.hi]
              refine RL.nil ?_
              exact ⟨rfl, ⟨_, rfl, rfl⟩, .inl ⟨e11, trivial, trivial, List.Perm.refl _⟩⟩
            · have u83 : ρ 83 = .bool false := hS.dep ⟨8, Ground.guard⟩ (by simp) rfl _ _ rfl rfl
              have u86 : ρ 86 = .slice A86 (t2.st.take k).length cp86 := hρ.1
              have u87 : ρ 87 = .slice A8 t2.st.length cp8 := hS.dep ⟨12, Ground.data⟩ (by simp) rfl _ _ rfl rfl
              have u88 : ρ 88 = .int .i64 k := hS.dep ⟨13, Ground.data⟩ (by simp) rfl _ _ rfl rfl
              clear hS hρ
              obtain ⟨base, rfl⟩ := Has.base (ρ := ρ) (l := [(83, .bool false), (86, .slice A86 (t2.st.take k).length cp86), (87, .slice A8 t2.st.length cp8), (88, .int .i64 k)]) ⟨u83, u86, u87, u88, trivial⟩
              clear u83 u86 u87 u88
              refine RL.perm (L' := ((Lr8 ++ ((b16, cel 30 ev.cells) :: (Lr6 ++ ((fb, cel 53 [.slice Af l.length cf, .int .i64 arg, .int .i64 t2.pc, .slice A6 t2.st.length cp6, .bool t2.calls, .bool t2.over]) :: (Lr7 ++ ((gb, cel 53 [.slice Ag l.length cg, .int .i64 arg, .int .i64 t2.pc, .slice A7 t2.st.length cp7, .bool t2.calls, .bool t2.over]) :: (Lf ++ (Lg ++ [(b14, cel 30 ev.cells)])))))))) ++ (Lr86))) rfl hL.symm ?_
              clear hL
              have hcp8 := row_cap hr8
              refine RL.sliceHi (j := (t2.st.take k).length) rfl sl35 rfl rfl (by rw [List.length_take]; omega) (by rw [List.length_take]; omega) ?_
              rw [hr8.hi]
              refine RL.nil ?_
              exact ⟨rfl, ⟨_, rfl, rfl⟩, .inr (⟨e11, trivial, A86, cp86, Lr86, hp0, ⟨rfl, trivial⟩, List.Perm.refl _⟩)⟩
          · intro ρ L D hS
            rcases hS.sp with ⟨e11, -, hρ, hL⟩ | ⟨e11, -, A86, cp86, Lr86, hp0, hρ, hL⟩
            · exact hS.lo 11 (by kernel_rfl) e11
            · have u83 : ρ 83 = .bool false := hS.dep ⟨8, Ground.guard⟩ (by simp) rfl _ _ rfl rfl
              have u86 : ρ 86 = .slice A86 (t2.st.take k).length cp86 := hρ.1
              have u89 : ρ 89 = .slice A8 (t2.st.take k).length cp8 := hS.dep ⟨14, Ground.data⟩ (by simp) rfl _ _ rfl rfl
              clear hS hρ
              obtain ⟨base, rfl⟩ := Has.base (ρ := ρ) (l := [(83, .bool false), (86, .slice A86 (t2.st.take k).length cp86), (89, .slice A8 (t2.st.take k).length cp8)]) ⟨u83, u86, u89, trivial⟩
              clear u83 u86 u89
              refine RL.perm (L' := ((Lr8 ++ ((b16, cel 30 ev.cells) :: (Lr6 ++ ((fb, cel 53 [.slice Af l.length cf, .int .i64 arg, .int .i64 t2.pc, .slice A6 t2.st.length cp6, .bool t2.calls, .bool t2.over]) :: (Lr7 ++ ((gb, cel 53 [.slice Ag l.length cg, .int .i64 arg, .int .i64 t2.pc, .slice A7 t2.st.length cp7, .bool t2.calls, .bool t2.over]) :: (Lf ++ (Lg ++ [(b14, cel 30 ev.cells)])))))))) ++ (Lr86))) rfl hL.symm ?_
              clear hL
              refine RL.fnQ rfl rfl en13 (fun w hw => (f_same (t2.st.take k) (t2.st.take k) A86 A8 cp86 cp8 w (by rw [List.length_take]; omega) (by rw [List.length_take]; omega) (row_rd hp0 hw (fun p hp => by simp [hp])) (rd_takeI (row_rd hr8 hw (fun p hp => by simp [hp])))).mono (fun v L h => h.trans (by rw [decide_eq_true rfl]))) rfl ?_
              refine RL.nil ?_
              exact ⟨rfl, ⟨_, rfl, rfl⟩, .inr (⟨e11, trivial, A86, cp86, Lr86, hp0, ⟨rfl, trivial⟩, List.Perm.refl _⟩)⟩
          · intro ρ L D hS
            rcases hS.sp with ⟨e11, -, hρ, hL⟩ | ⟨e11, -, A86, cp86, Lr86, hp0, hρ, hL⟩
            · exact hS.lo 11 (by kernel_rfl) e11
            · have u83 : ρ 83 = .bool false := hS.dep ⟨8, Ground.guard⟩ (by simp) rfl _ _ rfl rfl
              have u86 : ρ 86 = .slice A86 (t2.st.take k).length cp86 := hρ.1
              have u90 : ρ 90 = .bool true := hS.dep ⟨15, Ground.data⟩ (by simp) rfl _ _ rfl rfl
              clear hS hρ
              obtain ⟨base, rfl⟩ := Has.base (ρ := ρ) (l := [(83, .bool false), (86, .slice A86 (t2.st.take k).length cp86), (90, .bool true)]) ⟨u83, u86, u90, trivial⟩
              clear u83 u86 u90
              refine RL.perm (L' := ((Lr8 ++ ((b16, cel 30 ev.cells) :: (Lr6 ++ ((fb, cel 53 [.slice Af l.length cf, .int .i64 arg, .int .i64 t2.pc, .slice A6 t2.st.length cp6, .bool t2.calls, .bool t2.over]) :: (Lr7 ++ ((gb, cel 53 [.slice Ag l.length cg, .int .i64 arg, .int .i64 t2.pc, .slice A7 t2.st.length cp7, .bool t2.calls, .bool t2.over]) :: (Lf ++ (Lg ++ [(b14, cel 30 ev.cells)])))))))) ++ (Lr86))) rfl hL.symm ?_
              clear hL
              refine RL.not rfl rfl ?_
              refine RL.nil ?_
              exact ⟨rfl, ⟨_, rfl, rfl⟩, .inr (⟨e11, trivial, A86, cp86, Lr86, hp0, ⟨rfl, trivial⟩, List.Perm.refl _⟩)⟩
          · intro ρ L D hS
            rcases hS.sp with ⟨e11, -, hρ, hL⟩ | ⟨e11, -, A86, cp86, Lr86, hp0, hρ, hL⟩
            · exact hS.lo 11 (by kernel_rfl) e11
            · have u83 : ρ 83 = .bool false := hS.dep ⟨8, Ground.data⟩ (by simp) rfl _ _ rfl rfl
              have u86 : ρ 86 = .slice A86 (t2.st.take k).length cp86 := hρ.1
              have u91 : ρ 91 = .bool false := hS.dep ⟨16, Ground.data⟩ (by simp) rfl _ _ rfl rfl
              clear hS hρ
              obtain ⟨base, rfl⟩ := Has.base (ρ := ρ) (l := [(83, .bool false), (86, .slice A86 (t2.st.take k).length cp86), (91, .bool false)]) ⟨u83, u86, u91, trivial⟩
              clear u83 u86 u91
              refine RL.perm (L' := ((Lr8 ++ ((b16, cel 30 ev.cells) :: (Lr6 ++ ((fb, cel 53 [.slice Af l.length cf, .int .i64 arg, .int .i64 t2.pc, .slice A6 t2.st.length cp6, .bool t2.calls, .bool t2.over]) :: (Lr7 ++ ((gb, cel 53 [.slice Ag l.length cg, .int .i64 arg, .int .i64 t2.pc, .slice A7 t2.st.length cp7, .bool t2.calls, .bool t2.over]) :: (Lf ++ (Lg ++ [(b14, cel 30 ev.cells)])))))))) ++ (Lr86))) rfl hL.symm ?_
              clear hL
              refine RL.pick_f rfl rfl ?_
              refine RL.nil ?_
              exact ⟨rfl, ⟨_, rfl, rfl⟩, .inr (⟨e11, trivial, A86, cp86, Lr86, hp0, ⟨rfl, trivial⟩, List.Perm.refl _⟩)⟩
          · intro ρ L D hD hT hfix hsp
            rcases hsp with ⟨e11, -, hρ, hL⟩ | ⟨e11, -, A86, cp86, Lr86, hp0, hρ, hL⟩
            · exact done_no hD 11 rfl e11
            · have u0 : ρ 0 = .slice A l.length c := hfix 0 (by decide)
              have u2 : ρ 2 = .int .i64 k0 := hfix 2 (by decide)
              have u8 : ρ 8 = .pointer (some ⟨fb, 0, none⟩) := hfix 8 (by decide)
              have u10 : ρ 10 = .pointer (some ⟨gb, 0, none⟩) := hfix 10 (by decide)
              have u13 : ρ 13 = .int .i64 g := hfix 13 (by decide)
              have u86 : ρ 86 = .slice A86 (t2.st.take k).length cp86 := hρ.1
              have u92 : ρ 92 = .bool false := hT 17 _ _ rfl rfl
              clear hT hfix hD hρ
              obtain ⟨base, rfl⟩ := Has.base (ρ := ρ) (l := [(0, .slice A l.length c), (2, .int .i64 k0), (8, .pointer (some ⟨fb, 0, none⟩)), (10, .pointer (some ⟨gb, 0, none⟩)), (13, .int .i64 g), (86, .slice A86 (t2.st.take k).length cp86), (92, .bool false)]) ⟨u0, u2, u8, u10, u13, u86, u92, trivial⟩
              clear u0 u2 u8 u10 u13 u86 u92
              refine ⟨_, hL.symm, (Lr8 ++ ((b16, cel 30 ev.cells) :: (Lr6 ++ ((fb, cel 53 [.slice Af l.length cf, .int .i64 arg, .int .i64 t2.pc, .slice A6 t2.st.length cp6, .bool t2.calls, .bool t2.over]) :: (Lr7 ++ ((gb, cel 53 [.slice Ag l.length cg, .int .i64 arg, .int .i64 t2.pc, .slice A7 t2.st.length cp7, .bool t2.calls, .bool t2.over]) :: (Lf ++ (Lg ++ [(b14, cel 30 ev.cells)])))))))), List.sublist_append_left _ _, ?_⟩
              refine X.cond_f rfl ?_
              refine X.skip ?_
              refine X.blk ?_
              refine X.region rfl ?_
              refine RL.move rfl ?_
              refine RL.add rfl rfl rfl (by omega) ?_
              refine RL.assign rfl ?_
              refine RL.nil ?_
              refine X.hyp ⟨rfl, g + 1, by omega, _, (List.Sublist.trans (List.Sublist.append (List.Sublist.refl _) (.cons_cons _ (List.Sublist.append (List.Sublist.refl _) (.cons_cons _ (List.Sublist.append (List.Sublist.refl _) (List.sublist_append_left _ _)))))) ((List.sublist_cons_self _ _).trans (List.sublist_append_right _ _))), t2, A6, cp6, Lr6, A7, cp7, Lr7, hok2, h82, hr6, hr7, ⟨rfl, rfl, rfl, rfl, rfl, trivial⟩, rfl⟩
        · replace hl : ¬ ((_ : Int) < _) := hl
          refine RL.nil ?_
          refine X.cond_f rfl ?_
          refine X.exit rfl ?_
          refine X.seq ?_
          refine X.region rfl ?_
          refine RL.fn0 rfl rfl rfl en10 (fun w hw => (f_awake w)) rfl ?_
          rintro _ _ rfl
          refine RL.assign rfl ?_
          refine RL.nil ?_
          refine X.ret ?_
          refine ret1 rfl ?_
          show (_ : Value) = _
          rfl
    · refine RL.nil ?_
      refine X.cond_f rfl ?_
      refine X.skip ?_
      refine X.seq ?_
      refine X.region rfl ?_
      refine RL.bs0 rfl rfl sl28 ?_
      intro b1 hb1
      refine RL.move rfl ?_
      refine RL.append (xs := []) (Lz := []) (Lr := [(b1, cel 27 [])]) (ys := icells l) rfl rfl sl28 el_ins (by decide) (by decide) Try.underlying28 (List.Perm.refl _) rfl (Row.blk b1 0 0 [] [] rfl rfl (Nat.le_refl _)) rfl (ecells_len Ins.len l) (ecells_one Ins.one l) (fun w2 hw2 => ?_) (fun m hm => by simp only [List.length_nil] at hm; omega) ?_
      · rcases Nat.eq_zero_or_pos l.length with h0 | h0
        · exact .inl (List.eq_nil_of_length_eq_zero (by rw [ecells_len Ins.len, h0]))
        · exact .inr ⟨bb, oo, hA h0, hw2.cellsI hc (by simp)⟩
      rw [List.nil_append]
      intro v2 Lr hrow
      obtain ⟨A2, m2, cp2, rfl, hm2, _, _⟩ := hrow.slice (by decide)
      obtain rfl : m2 = l.length := by rw [ecells_len Ins.len] at hm2; omega
      rw [List.append_nil]
      refine RL.assign rfl ?_
      refine RL.nil ?_
      refine X.seq ?_
      refine X.region rfl ?_
      refine RL.move rfl ?_
      refine RL.move rfl ?_
      refine RL.fn0 rfl rfl rfl en8 (fun w hw => (f_newx l hlen A2 cp2 w (row_rd hrow hw (fun p hp => by simp [hp])) (fun h => hv (valid_iff.1 h)) arg)) rfl ?_
      rintro _ _ rfl
      refine RL.drop rfl (List.sublist_append_right _ _) ?_
      refine RL.move rfl ?_
      refine RL.extract rfl rfl rfl ?_
      refine RL.extract rfl rfl rfl ?_
      refine RL.assign rfl ?_
      refine RL.assign rfl ?_
      refine RL.nil ?_
      refine X.seq ?_
      refine X.region rfl ?_
      refine RL.move rfl ?_
      refine RL.move rfl ?_
      refine RL.fn0 rfl rfl rfl en8 (fun w hw => (f_newx l hlen A c w (hrd1.st0 hw) (fun h => hv (valid_iff.1 h)) arg)) rfl ?_
      rintro _ _ rfl
      refine RL.drop rfl (List.sublist_append_right _ _) ?_
      refine RL.move rfl ?_
      refine RL.extract rfl rfl rfl ?_
      refine RL.extract rfl rfl rfl ?_
      refine RL.assign rfl ?_
      refine RL.assign rfl ?_
      refine RL.nil ?_
      refine X.seq ?_
      refine X.seq ?_
      refine X.region rfl ?_
      refine RL.assign rfl ?_
      refine RL.nil ?_
      refine X.block ?_
      refine X.loop (γ := Nat) (fun g ρ L => ∃ Li : List Ent, (Over A2 l.length Li) ∧ Has ρ [(0, .slice A l.length c), (2, .int .i64 k0), (7, .slice A2 l.length cp2), (8, .pointer none), (9, .int .i64 (heightP l 8).2.2), (10, .pointer none), (12, .int .i64 g)] ∧ L = Li) (fun g => l.length - g) (0) ⟨_, (by repeat (first | exact List.Sublist.refl _ | exact List.nil_sublist _ | (rw [List.append_nil]; exact List.Sublist.refl _) | exact List.sublist_append_left _ _ | exact (List.sublist_append_left _ _).trans (List.sublist_append_left _ _) | apply List.Sublist.cons_cons | apply List.Sublist.cons | refine List.Sublist.trans ?_ (List.sublist_append_right _ _))), Lr, Over.start hrow, ⟨rfl, rfl, rfl, rfl, rfl, rfl, rfl, trivial⟩, rfl⟩ ?_
      rintro g _ _ ⟨Li, hov, hρ, rfl⟩
      obtain ⟨base, rfl⟩ := hρ.base
      clear hρ
      refine X.seq ?_
      refine X.seq ?_
      refine X.region rfl ?_
      refine RL.move rfl ?_
      refine RL.move rfl ?_
      refine RL.len rfl sl28 rfl ?_
      refine RL.cmp_s rfl rfl rfl rfl (fun hg => ?_) (fun hg => ?_)
      · replace hg : (_ : Int) < _ := hg
        obtain ⟨bi, cs, rfl, rfl, hcs⟩ := hov (by omega)
        refine RL.nil ?_
        refine X.cond_t rfl ?_
        refine X.skip ?_
        refine X.seq ?_
        refine X.block ?_
        refine X.region rfl ?_
        refine RL.move rfl ?_
        refine RL.move rfl ?_
        refine RL.bldC (vs := []) (cells := [.int .i64 0, .int .i64 0, .int .i64 0]) rfl rfl (fun w => by kernel_rfl) ?_
        refine RL.indexAddr rfl sl28 rfl rfl rfl rfl (by omega) ?_
        refine RL.storeG (ls := [.int .i64 0, .int .i64 0, .int .i64 0]) (l := cs) (fun l => l.take (0 + g * 3) ++ [.int .i64 0, .int .i64 0, .int .i64 0] ++ l.drop (0 + g * 3 + 3)) rfl rfl ag27.size rfl rfl rfl (by intro u hu; simp at hu; subst hu; rfl) (by simp; omega) rfl ?_
        refine RL.nil ?_
        refine X.blk ?_
        refine X.region rfl ?_
        refine RL.move rfl ?_
        refine RL.add rfl rfl rfl (by omega) ?_
        refine RL.assign rfl ?_
        refine RL.nil ?_
        refine X.hyp ⟨rfl, g + 1, by omega, _, (List.Sublist.refl _), _, fun _ => ⟨bi, _, rfl, rfl, by simp; omega⟩, ⟨rfl, rfl, rfl, rfl, rfl, rfl, rfl, trivial⟩, rfl⟩
      · replace hg : ¬ ((_ : Int) < _) := hg
        clear hov
        refine RL.nil ?_
        refine X.cond_f rfl ?_
        refine X.exit rfl ?_
        refine X.seq ?_
        refine X.seq ?_
        refine X.region rfl ?_
        refine RL.move rfl ?_
        refine RL.cmp_t rfl rfl rfl rfl (by show ((_ : Int) ≠ _); exact fun h => hv (valid_iff.1 h)) ?_
        refine RL.nil ?_
        refine X.cond_t rfl ?_
        refine X.seq ?_
        refine X.region rfl ?_
        refine RL.fn0 rfl rfl rfl en10 (fun w hw => (f_awake w)) rfl ?_
        rintro _ _ rfl
        refine RL.assign rfl ?_
        refine RL.nil ?_
        refine X.ret ?_
        refine ret1 rfl ?_
        show (_ : Value) = _
        rfl
end Go.Proofs.Ytekepfpkihnodaa

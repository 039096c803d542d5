/- The walk of FrameRuns. -/
import Derived.Test.YtekepfpkihnodaaB2
set_option linter.unusedVariables false
set_option linter.unusedSimpArgs false
namespace Go.Proofs.Ytekepfpkihnodaa
open Go.RowKit
attribute [local irreducible] X RL W Ctr
set_option maxHeartbeats 2000000 in
theorem w_runs (l : List Ins) (hmax : l.length ≤ 9223372036854775807) (A : Option Addr) (c : Nat) (hcap : l.length ≤ c) (w : World) (hrd : Rd w A (icells l)) (arg : Int) (rs vs : List Int) (B C : Option Addr) (d e : Nat) (hrs : Rd w B (ints rs)) (hvs : Rd w C (ints vs)) :
    Ctr Try.prog 6 [.slice A l.length c, .int .i64 arg, .slice B rs.length d, .slice C vs.length e] w [] fun v _ => v = .bool true := by
  have hrd1 := hrd
  refine Ctr.intro0 (n := 121) Try.func6 rfl Try.ntmps6 (Nat.le_of_ble_eq_true rfl) ?_
  refine X.seq ?_
  refine X.region rfl ?_
  refine RL.assign rfl ?_
  refine RL.nil ?_
  refine X.seq ?_
  refine X.seq ?_
  refine X.region rfl ?_
  refine RL.move rfl ?_
  refine RL.len rfl sl28 rfl ?_
  refine RL.cmp_s rfl rfl rfl rfl (fun h60 => ?_) (fun h60 => ?_)
  · replace h60 : (_ : Int) > _ := h60
    refine RL.nil ?_
    refine X.cond_t rfl ?_
    refine X.seq ?_
    refine X.region rfl ?_
    refine RL.fn0 rfl rfl rfl en10 (fun w hw => (f_awake w)) rfl ?_
    rintro _ _ rfl
    refine RL.assign rfl ?_
    refine RL.nil ?_
    refine X.ret ?_
    refine ret1 rfl ?_
    show (_ : Value) = _
    rfl
  · replace h60 : ¬ ((_ : Int) > _) := h60
    have hlen : l.length ≤ 1000 := by omega
    obtain ⟨bb, oo, hA0, hc⟩ := hrd
    have hA : 0 < l.length → A = some ⟨bb, oo, none⟩ := fun h => hA0 (by rw [ecells_len Ins.len]; omega)
    obtain ⟨br, or_, hB, hrc⟩ := hrs
    obtain ⟨bv, ov, hC, hvc⟩ := hvs
    rw [ints_length] at hB hC
    by_cases hv : Valid l 8
    · have h0 : 0 < l.length := by have := hv.len; omega
      have hcap0 := hcap
      refine RL.nil ?_
      refine X.cond_f rfl ?_
      refine X.skip ?_
      refine X.seq ?_
      refine X.region rfl ?_
      refine RL.move rfl ?_
      refine RL.move rfl ?_
      refine RL.fn0 rfl rfl rfl en8 (fun w hw => (f_new l hlen A c w (hrd1.st0 hw) hv arg)) rfl ?_
      rintro _ _ ⟨fb, Af, cf, Lf, rfl, hcf, hs⟩
      refine RL.drop (L' := ([(fb, cel 53 [.slice Af l.length cf, .int .i64 arg, .int .i64 0, .slice none 0 0, .bool false, .bool false])] ++ Lf)) rfl (hs.trans (List.sublist_append_left _ _)) ?_
      refine RL.move rfl ?_
      refine RL.extract rfl rfl rfl ?_
      refine RL.extract rfl rfl rfl ?_
      refine RL.assign rfl ?_
      refine RL.assign rfl ?_
      refine RL.nil ?_
      refine X.seq ?_
      refine X.seq ?_
      refine X.region rfl ?_
      refine RL.move rfl ?_
      refine RL.fn0 rfl rfl rfl en14 (fun w hw => (f_height l hlen A c w (hrd1.st0 hw) 8)) rfl ?_
      rintro _ _ ⟨v1, L1, rfl, hs1, A4, cp4, rfl, hrow4⟩
      refine RL.drop rfl (List.sublist_append_right _ _) ?_
      refine RL.move rfl ?_
      refine RL.extract rfl rfl rfl ?_
      refine RL.extract rfl rfl rfl ?_
      refine RL.extract rfl rfl rfl ?_
      refine RL.assign rfl ?_
      refine RL.assign rfl ?_
      refine RL.assign rfl ?_
      refine RL.nil ?_
      refine X.seq ?_
      refine X.region rfl ?_
      refine RL.move rfl ?_
      refine RL.cmp_f rfl rfl rfl rfl (by show ¬ ((_ : Int) ≠ _); exact fun h => h (valid_iff.2 hv)) ?_
      refine RL.nil ?_
      refine X.cond_f rfl ?_
      refine X.skip ?_
      refine X.seq ?_
      refine X.seq ?_
      refine X.region rfl ?_
      refine RL.move rfl ?_
      refine RL.cmp_f rfl rfl rfl rfl (by show ¬ ((_ : Int) ≠ _); omega) ?_
      refine RL.nil ?_
      refine X.cond_f rfl ?_
      refine X.skip ?_
      refine X.seq ?_
      refine X.region rfl ?_
      refine RL.bs0 rfl rfl sl28 ?_
      intro b1 hb1
      refine RL.move rfl ?_
      refine RL.append (xs := []) (Lz := [(fb, cel 53 [.slice Af l.length cf, .int .i64 arg, .int .i64 0, .slice none 0 0, .bool false, .bool false])] ++ Lf) (Lr := [(b1, cel 27 [])]) (ys := icells l) rfl rfl sl28 el_ins (by decide) (by decide) Try.underlying28 (List.Perm.refl _) rfl (Row.blk b1 0 0 [] [] rfl rfl (Nat.le_refl _)) rfl (ecells_len Ins.len l) (ecells_one Ins.one l) (fun w2 hw2 => ?_) (fun m hm => by simp only [List.length_nil] at hm; omega) ?_
      · rcases Nat.eq_zero_or_pos l.length with h0 | h0
        · exact .inl (List.eq_nil_of_length_eq_zero (by rw [ecells_len Ins.len, h0]))
        · exact .inr ⟨bb, oo, hA h0, hw2.cellsI hc (by simp)⟩
      rw [List.nil_append]
      intro v2 Lx hcx
      obtain ⟨Ax, m2, cx, rfl, hm2, _, _⟩ := hcx.slice (by decide)
      obtain rfl : m2 = l.length := by rw [ecells_len Ins.len] at hm2; omega
      refine RL.move rfl ?_
      refine RL.bldC (vs := [(0, .slice Ax l.length cx), (1, .int .i64 arg)]) (cells := [.slice Ax l.length cx, .int .i64 arg, .int .i64 0, .slice none 0 0, .bool false, .bool false]) rfl rfl (fun w => by kernel_rfl) ?_
      refine RL.boxA rfl rfl rfl ?_
      intro xb hxb
      dsimp only at hxb
      refine RL.perm (L' := (fb, cel 53 [.slice Af l.length cf, .int .i64 arg, .int .i64 0, .slice none 0 0, .bool false, .bool false]) :: ((xb, cel 46 [.slice Ax l.length cx, .int .i64 arg, .int .i64 0, .slice none 0 0, .bool false, .bool false]) :: (Lf ++ Lx))) rfl (by classical exact List.perm_iff_count.2 (fun z => by simp only [List.count_append, List.count_cons, List.count_nil, List.cons_append, List.nil_append, List.set_cons_zero, List.set_cons_succ] <;> omega)) ?_
      refine RL.assign rfl ?_
      refine RL.nil ?_
      refine X.seq ?_
      refine X.region rfl ?_
      refine RL.assign rfl ?_
      refine RL.assign rfl ?_
      refine RL.nil ?_
      refine X.seq ?_
      refine X.seq ?_
      refine X.region rfl ?_
      refine RL.assign rfl ?_
      refine RL.nil ?_
      refine X.block ?_
      skip
      refine X.loop (γ := Nat) (fun g ρ L => ∃ ru : Int, ∃ u : Int, ∃ t : Fr, ∃ A4 : Option Addr, ∃ cp4 : Nat, ∃ Lr4 : List Ent, ∃ A5 : Option Addr, ∃ cp5 : Nat, ∃ Lr5 : List Ent, (FrOk l t) ∧ (t.st.length ≤ 8) ∧ (Row 2 1 (.slice A4 t.st.length cp4) (ints t.st) Lr4) ∧ (Row 2 1 (.slice A5 t.st.length cp5) (ints t.st) Lr5) ∧ Has ρ [(0, .slice A l.length c), (2, .slice B rs.length d), (3, .slice C vs.length e), (9, .pointer (some ⟨fb, 0, none⟩)), (14, .pointer (some ⟨xb, 0, none⟩)), (15, .int .i64 ru), (16, .int .i64 u), (17, .int .i64 g)] ∧ L = Lr4 ++ ((fb, cel 53 [.slice Af l.length cf, .int .i64 arg, .int .i64 t.pc, .slice A4 t.st.length cp4, .bool t.calls, .bool t.over]) :: (Lr5 ++ ((xb, cel 46 [.slice Ax l.length cx, .int .i64 arg, .int .i64 t.pc, .slice A5 t.st.length cp5, .bool t.calls, .bool t.over]) :: (Lf ++ Lx))))) (fun g => 40 - g) (0) ⟨_, (by repeat (first | exact List.Sublist.refl _ | exact List.nil_sublist _ | (rw [List.append_nil]; exact List.Sublist.refl _) | exact List.sublist_append_left _ _ | exact (List.sublist_append_left _ _).trans (List.sublist_append_left _ _) | apply List.Sublist.cons_cons | apply List.Sublist.cons | refine List.Sublist.trans ?_ (List.sublist_append_right _ _))), 0, 0, ⟨0, [], false, false⟩, none, 0, [], none, 0, [], FrOk.start hv, by simp, Row.nil, Row.nil, ⟨rfl, rfl, rfl, rfl, rfl, rfl, rfl, rfl, trivial⟩, rfl⟩ ?_
      rintro g _ _ ⟨ru, u, t, A4, cp4, Lr4, A5, cp5, Lr5, hok, h84, hr4, hr5, hρ, rfl⟩
      obtain ⟨base, rfl⟩ := hρ.base
      clear hρ
      refine X.seq ?_
      refine X.seq ?_
      refine X.region rfl ?_
      refine RL.move rfl ?_
      refine RL.cmp_s rfl rfl rfl rfl (fun hl => ?_) (fun hl => ?_)
      · replace hl : (_ : Int) < _ := hl
        refine RL.nil ?_
        refine X.cond_t rfl ?_
        refine X.skip ?_
        refine X.seq ?_
        refine X.block ?_
        refine X.seq ?_
        refine X.seq ?_
        refine X.region rfl ?_
        refine RL.move rfl ?_
        refine RL.move rfl ?_
        refine RL.len rfl sl35 rfl ?_
        refine RL.cmp_d rfl rfl rfl rfl ?_
        refine RL.nil ?_
        refine X.cut (fun ρ ds L => ds = [] ∧ ∃ ru2 : Int, Has ρ [(0, .slice A l.length c), (2, .slice B rs.length d), (3, .slice C vs.length e), (9, .pointer (some ⟨fb, 0, none⟩)), (14, .pointer (some ⟨xb, 0, none⟩)), (15, .int .i64 ru2), (16, .int .i64 u), (17, .int .i64 g)] ∧ L = Lr4 ++ ((fb, cel 53 [.slice Af l.length cf, .int .i64 arg, .int .i64 t.pc, .slice A4 t.st.length cp4, .bool t.calls, .bool t.over]) :: (Lr5 ++ ((xb, cel 46 [.slice Ax l.length cx, .int .i64 arg, .int .i64 t.pc, .slice A5 t.st.length cp5, .bool t.calls, .bool t.over]) :: (Lf ++ Lx))))) ?_ ?_
        · refine X.cond_s rfl (fun hi => ?_) (fun hi => ?_)
          · replace hi : (g : Int) < (rs.length : Int) := hi
            obtain ⟨xv, hxv⟩ : ∃ xv, rs[g]? = some xv := ⟨_, List.getElem?_eq_getElem (by omega)⟩
            refine X.region rfl ?_
            refine RL.move rfl ?_
            refine RL.move rfl ?_
            refine RL.indexAddr rfl sl35 rfl rfl (hB (by omega)) rfl (by omega) ?_
            refine RL.loadI rfl sc2 rfl (by rw [Nat.mul_one]; exact hrc g _ (ints_get hxv)) (by simp) ?_
            refine RL.assign rfl ?_
            refine RL.nil ?_
            exact X.hyp ⟨rfl, xv, ⟨rfl, rfl, rfl, rfl, rfl, rfl, rfl, rfl, trivial⟩, rfl⟩
          · refine X.skip ?_
            exact X.hyp ⟨rfl, ru, ⟨rfl, rfl, rfl, rfl, rfl, rfl, rfl, rfl, trivial⟩, rfl⟩
        · rintro _ _ _ ⟨rfl, ru2, hρ, rfl⟩
          obtain ⟨base, rfl⟩ := hρ.base
          clear hρ
          refine X.seq ?_
          refine X.seq ?_
          refine X.region rfl ?_
          refine RL.move rfl ?_
          refine RL.move rfl ?_
          refine RL.len rfl sl35 rfl ?_
          refine RL.cmp_d rfl rfl rfl rfl ?_
          refine RL.nil ?_
          refine X.cut (fun ρ ds L => ds = [] ∧ ∃ u2 : Int, Has ρ [(0, .slice A l.length c), (2, .slice B rs.length d), (3, .slice C vs.length e), (9, .pointer (some ⟨fb, 0, none⟩)), (14, .pointer (some ⟨xb, 0, none⟩)), (15, .int .i64 ru2), (16, .int .i64 u2), (17, .int .i64 g)] ∧ L = Lr4 ++ ((fb, cel 53 [.slice Af l.length cf, .int .i64 arg, .int .i64 t.pc, .slice A4 t.st.length cp4, .bool t.calls, .bool t.over]) :: (Lr5 ++ ((xb, cel 46 [.slice Ax l.length cx, .int .i64 arg, .int .i64 t.pc, .slice A5 t.st.length cp5, .bool t.calls, .bool t.over]) :: (Lf ++ Lx))))) ?_ ?_
          · refine X.cond_s rfl (fun hi => ?_) (fun hi => ?_)
            · replace hi : (g : Int) < (vs.length : Int) := hi
              obtain ⟨xv, hxv⟩ : ∃ xv, vs[g]? = some xv := ⟨_, List.getElem?_eq_getElem (by omega)⟩
              refine X.region rfl ?_
              refine RL.move rfl ?_
              refine RL.move rfl ?_
              refine RL.indexAddr rfl sl35 rfl rfl (hC (by omega)) rfl (by omega) ?_
              refine RL.loadI rfl sc2 rfl (by rw [Nat.mul_one]; exact hvc g _ (ints_get hxv)) (by simp) ?_
              refine RL.assign rfl ?_
              refine RL.nil ?_
              exact X.hyp ⟨rfl, xv, ⟨rfl, rfl, rfl, rfl, rfl, rfl, rfl, rfl, trivial⟩, rfl⟩
            · refine X.skip ?_
              exact X.hyp ⟨rfl, u, ⟨rfl, rfl, rfl, rfl, rfl, rfl, rfl, rfl, trivial⟩, rfl⟩
          · rintro _ _ _ ⟨rfl, u2, hρ, rfl⟩
            obtain ⟨base, rfl⟩ := hρ.base
            clear hρ
            rcases hN : nextP l arg ru2 u2 t with ⟨ev, v2, t2⟩
            have hf := nextP_fine hv arg ru2 u2 hok
            rw [hN] at hf
            obtain ⟨hok2, h82, _⟩ := hf
            dsimp only at hok2 h82
            refine X.seq ?_
            refine X.region rfl ?_
            refine RL.move rfl ?_
            refine RL.move rfl ?_
            refine RL.move rfl ?_
            refine RL.fn (Lp := Lr4 ++ [(fb, cel 53 [.slice Af l.length cf, .int .i64 arg, .int .i64 t.pc, .slice A4 t.st.length cp4, .bool t.calls, .bool t.over])]) (Lr := (Lr5 ++ ((xb, cel 46 [.slice Ax l.length cx, .int .i64 arg, .int .i64 t.pc, .slice A5 t.st.length cp5, .bool t.calls, .bool t.over]) :: (Lf ++ Lx)))) rfl rfl rfl en9 (by classical exact List.perm_iff_count.2 (fun z => by simp only [List.count_append, List.count_cons, List.count_nil, List.cons_append, List.nil_append, List.set_cons_zero, List.set_cons_succ] <;> omega)) (fun w1 hw1 => by
              obtain ⟨bc, e1, e2, e3⟩ := code_at hcf h0 hw1 (fun p hp => by simp [hp])
              have h := f_next l hv arg ru2 u2 t hok Af cf bc 0 fb A4 cp4 Lr4 hr4 h84 w1 (fun p hp => hw1.own p (List.mem_append_left _ hp)) (hw1.nodup.sublist ((List.sublist_append_left _ _).map _)) (fun _ => e1) e2 e3
              rw [hN] at h; exact h) rfl ?_
            rintro _ _ ⟨rfl, A6, cp6, Lr6, hr6, hs6⟩
            refine RL.drop (L' := Lr6 ++ ((fb, cel 53 [.slice Af l.length cf, .int .i64 arg, .int .i64 t2.pc, .slice A6 t2.st.length cp6, .bool t2.calls, .bool t2.over]) :: (Lr5 ++ ((xb, cel 46 [.slice Ax l.length cx, .int .i64 arg, .int .i64 t.pc, .slice A5 t.st.length cp5, .bool t.calls, .bool t.over]) :: (Lf ++ Lx))))) rfl ?_ ?_
            · have := hs6.append (List.Sublist.refl ((Lr5 ++ ((xb, cel 46 [.slice Ax l.length cx, .int .i64 arg, .int .i64 t.pc, .slice A5 t.st.length cp5, .bool t.calls, .bool t.over]) :: (Lf ++ Lx)))))
              rwa [List.append_assoc] at this
            refine RL.move rfl ?_
            refine RL.extract rfl rfl rfl ?_
            refine RL.extract rfl rfl rfl ?_
            refine RL.alloc rfl rfl zt30 ?_
            intro b18 hb18
            dsimp only at hb18
            refine RL.stA rfl rfl ag30.size rfl rfl (Ev.len _) rfl (Ev.one _) ?_
            refine RL.assign rfl ?_
            refine RL.nil ?_
            refine X.seq ?_
            refine X.region rfl ?_
            refine RL.move rfl ?_
            refine RL.move rfl ?_
            refine RL.move rfl ?_
            refine RL.fn (Lp := Lr5 ++ [(xb, cel 46 [.slice Ax l.length cx, .int .i64 arg, .int .i64 t.pc, .slice A5 t.st.length cp5, .bool t.calls, .bool t.over])]) (Lr := ((b18, cel 30 ev.cells) :: (Lr6 ++ ((fb, cel 53 [.slice Af l.length cf, .int .i64 arg, .int .i64 t2.pc, .slice A6 t2.st.length cp6, .bool t2.calls, .bool t2.over]) :: (Lf ++ Lx))))) rfl rfl rfl en15 (by classical exact List.perm_iff_count.2 (fun z => by simp only [List.count_append, List.count_cons, List.count_nil, List.cons_append, List.nil_append, List.set_cons_zero, List.set_cons_succ] <;> omega)) (fun w1 hw1 => by
              obtain ⟨bc, e1, e2, e3⟩ := code_at hcx h0 hw1 (fun p hp => by simp [hp])
              have h := f_rnext l hv arg ru2 u2 t hok Ax cx bc 0 xb A5 cp5 Lr5 hr5 h84 w1 (fun p hp => hw1.own p (List.mem_append_left _ hp)) (hw1.nodup.sublist ((List.sublist_append_left _ _).map _)) (fun _ => e1) e2 e3
              rw [hN] at h; exact h) rfl ?_
            rintro _ _ ⟨rfl, A7, cp7, Lr7, hr7, hs7⟩
            refine RL.drop (L' := Lr7 ++ ((xb, cel 46 [.slice Ax l.length cx, .int .i64 arg, .int .i64 t2.pc, .slice A7 t2.st.length cp7, .bool t2.calls, .bool t2.over]) :: ((b18, cel 30 ev.cells) :: (Lr6 ++ ((fb, cel 53 [.slice Af l.length cf, .int .i64 arg, .int .i64 t2.pc, .slice A6 t2.st.length cp6, .bool t2.calls, .bool t2.over]) :: (Lf ++ Lx)))))) rfl ?_ ?_
            · have := hs7.append (List.Sublist.refl (((b18, cel 30 ev.cells) :: (Lr6 ++ ((fb, cel 53 [.slice Af l.length cf, .int .i64 arg, .int .i64 t2.pc, .slice A6 t2.st.length cp6, .bool t2.calls, .bool t2.over]) :: (Lf ++ Lx))))))
              rwa [List.append_assoc] at this
            refine RL.perm (L' := Lr6 ++ ((fb, cel 53 [.slice Af l.length cf, .int .i64 arg, .int .i64 t2.pc, .slice A6 t2.st.length cp6, .bool t2.calls, .bool t2.over]) :: (Lr7 ++ ((xb, cel 46 [.slice Ax l.length cx, .int .i64 arg, .int .i64 t2.pc, .slice A7 t2.st.length cp7, .bool t2.calls, .bool t2.over]) :: (Lf ++ (Lx ++ [(b18, cel 30 ev.cells)])))))) rfl (by classical exact List.perm_iff_count.2 (fun z => by simp only [List.count_append, List.count_cons, List.count_nil, List.cons_append, List.nil_append, List.set_cons_zero, List.set_cons_succ] <;> omega)) ?_
            refine RL.move rfl ?_
            refine RL.extract rfl rfl rfl ?_
            refine RL.extract rfl rfl rfl ?_
            refine RL.alloc rfl rfl zt30 ?_
            intro b20 hb20
            dsimp only at hb20
            refine RL.stA rfl rfl ag30.size rfl rfl (Ev.len _) rfl (Ev.one _) ?_
            refine RL.assign rfl ?_
            refine RL.nil ?_
            refine X.seq ?_
            refine X.seq ?_
            refine X.set [.val (.agg ev.cells.toArray), .val (.agg ev.cells.toArray), .val (.bool false), .val (.bool false), .val (.int .i64 v2), .val (.int .i64 v2), .val (.bool false), .val (.bool false), .val (.bool false), .val (.pointer (some ⟨fb, 0, none⟩)), .val (.int .i64 t2.pc), .val (.pointer (some ⟨xb, 0, none⟩)), .val (.pointer (some ⟨xb, 0, none⟩)), .val (.pointer (some ⟨xb, 0 + 2, none⟩)), .val (.int .i64 t2.pc), .val (.bool false), .val (.bool false), .val (.bool false), .val (.pointer (some ⟨fb, 0, none⟩)), .any, .val (.pointer (some ⟨xb, 0, none⟩)), .val (.pointer (some ⟨xb, 0, none⟩)), .val (.pointer (some ⟨xb, 0 + 3, none⟩)), .val (.slice A7 t2.st.length cp7), .val (.bool true), .val (.bool false), .val (.bool false)] [[], [], [0, 1], [0, 1, 2], [0, 1, 2, 3], [0, 1, 2, 3], [0, 1, 2, 3, 4, 5], [0, 1, 2, 3, 4, 5, 6], [0, 1, 2, 3, 4, 5, 6, 7], [0, 1, 2, 3, 4, 5, 6, 7, 8], [0, 1, 2, 3, 4, 5, 6, 7, 8, 9], [0, 1, 2, 3, 4, 5, 6, 7, 8], [0, 1, 2, 3, 4, 5, 6, 7, 8, 11], [0, 1, 2, 3, 4, 5, 6, 7, 8, 11, 12], [0, 1, 2, 3, 4, 5, 6, 7, 8, 11, 12, 13], [0, 1, 2, 3, 4, 5, 6, 7, 8, 9, 10, 11, 12, 13, 14], [0, 1, 2, 3, 4, 5, 6, 7, 8, 9, 10, 11, 12, 13, 14, 15], [0, 1, 2, 3, 4, 5, 6, 7, 8, 9, 10, 11, 12, 13, 14, 15, 16], [0, 1, 2, 3, 4, 5, 6, 7, 8, 9, 10, 11, 12, 13, 14, 15, 16, 17], [0, 1, 2, 3, 4, 5, 6, 7, 8, 9, 10, 11, 12, 13, 14, 15, 16, 17, 18], [0, 1, 2, 3, 4, 5, 6, 7, 8, 9, 10, 11, 12, 13, 14, 15, 16, 17], [0, 1, 2, 3, 4, 5, 6, 7, 8, 9, 10, 11, 12, 13, 14, 15, 16, 17, 20], [0, 1, 2, 3, 4, 5, 6, 7, 8, 9, 10, 11, 12, 13, 14, 15, 16, 17, 20, 21], [0, 1, 2, 3, 4, 5, 6, 7, 8, 9, 10, 11, 12, 13, 14, 15, 16, 17, 20, 21, 22], [0, 1, 2, 3, 4, 5, 6, 7, 8, 9, 10, 11, 12, 13, 14, 15, 16, 17, 18, 19, 20, 21, 22, 23], [0, 1, 2, 3, 4, 5, 6, 7, 8, 9, 10, 11, 12, 13, 14, 15, 16, 17, 18, 19, 20, 21, 22, 23, 24], [0, 1, 2, 3, 4, 5, 6, 7, 8, 9, 10, 11, 12, 13, 14, 15, 16, 17, 18, 19, 20, 21, 22, 23, 24, 25]] (fun D ρ L => (D 19 = false ∧ True ∧ Has ρ [] ∧ L.Perm ((b20, cel 30 ev.cells) :: (Lr6 ++ ((fb, cel 53 [.slice Af l.length cf, .int .i64 arg, .int .i64 t2.pc, .slice A6 t2.st.length cp6, .bool t2.calls, .bool t2.over]) :: (Lr7 ++ ((xb, cel 46 [.slice Ax l.length cx, .int .i64 arg, .int .i64 t2.pc, .slice A7 t2.st.length cp7, .bool t2.calls, .bool t2.over]) :: (Lf ++ (Lx ++ [(b18, cel 30 ev.cells)])))))))) ∨ (D 19 = true ∧ True ∧ ∃ A111 : Option Addr, ∃ cp111 : Nat, ∃ Lr111 : List Ent, (Row 2 1 (.slice A111 t2.st.length cp111) (ints t2.st) Lr111) ∧ Has ρ [(111, .slice A111 t2.st.length cp111)] ∧ L.Perm (((b20, cel 30 ev.cells) :: (Lr6 ++ ((fb, cel 53 [.slice Af l.length cf, .int .i64 arg, .int .i64 t2.pc, .slice A6 t2.st.length cp6, .bool t2.calls, .bool t2.over]) :: (Lr7 ++ ((xb, cel 46 [.slice Ax l.length cx, .int .i64 arg, .int .i64 t2.pc, .slice A7 t2.st.length cp7, .bool t2.calls, .bool t2.over]) :: (Lf ++ (Lx ++ [(b18, cel 30 ev.cells)]))))))) ++ (Lr111)))) rfl (by kernel_rfl) (by kernel_rfl) (by kernel_rfl) (by kernel_rfl) (fun D hD => .inl ⟨hD 19, trivial, trivial, (List.Perm.refl _)⟩) ⟨?_, ?_, ?_, ?_, ?_, ?_, ?_, ?_, ?_, ?_, ?_, ?_, ?_, ?_, ?_, ?_, ?_, ?_, ?_, ?_, ?_, ?_, ?_, ?_, ?_, ?_, ?_, trivial⟩ ?_
            · intro ρ L D hS
              rcases hS.sp with ⟨e19, -, hρ, hL⟩ | ⟨e19, -, A111, cp111, Lr111, hp0, hρ, hL⟩
              · have u18 : ρ 18 = .pointer (some ⟨b18, 0, none⟩) := hS.fix 18 (by decide)
                clear hS hρ
                obtain ⟨base, rfl⟩ := Has.base (ρ := ρ) (l := [(18, .pointer (some ⟨b18, 0, none⟩))]) ⟨u18, trivial⟩
                clear u18
                refine RL.perm (L' := ((b20, cel 30 ev.cells) :: (Lr6 ++ ((fb, cel 53 [.slice Af l.length cf, .int .i64 arg, .int .i64 t2.pc, .slice A6 t2.st.length cp6, .bool t2.calls, .bool t2.over]) :: (Lr7 ++ ((xb, cel 46 [.slice Ax l.length cx, .int .i64 arg, .int .i64 t2.pc, .slice A7 t2.st.length cp7, .bool t2.calls, .bool t2.over]) :: (Lf ++ (Lx ++ [(b18, cel 30 ev.cells)])))))))) rfl hL.symm ?_
                clear hL
                refine RL.loadOA rfl ag30 rfl (take_all (Ev.len _)) (Ev.len _) ?_
                refine RL.nil ?_
                exact ⟨rfl, ⟨_, rfl, rfl⟩, .inl ⟨e19, trivial, trivial, List.Perm.refl _⟩⟩
              · exact hS.hi 19 rfl (by kernel_rfl) e19
            · intro ρ L D hS
              rcases hS.sp with ⟨e19, -, hρ, hL⟩ | ⟨e19, -, A111, cp111, Lr111, hp0, hρ, hL⟩
              · have u20 : ρ 20 = .pointer (some ⟨b20, 0, none⟩) := hS.fix 20 (by decide)
                clear hS hρ
                obtain ⟨base, rfl⟩ := Has.base (ρ := ρ) (l := [(20, .pointer (some ⟨b20, 0, none⟩))]) ⟨u20, trivial⟩
                clear u20
                refine RL.perm (L' := ((b20, cel 30 ev.cells) :: (Lr6 ++ ((fb, cel 53 [.slice Af l.length cf, .int .i64 arg, .int .i64 t2.pc, .slice A6 t2.st.length cp6, .bool t2.calls, .bool t2.over]) :: (Lr7 ++ ((xb, cel 46 [.slice Ax l.length cx, .int .i64 arg, .int .i64 t2.pc, .slice A7 t2.st.length cp7, .bool t2.calls, .bool t2.over]) :: (Lf ++ (Lx ++ [(b18, cel 30 ev.cells)])))))))) rfl hL.symm ?_
                clear hL
                refine RL.loadOA rfl ag30 rfl (take_all (Ev.len _)) (Ev.len _) ?_
                refine RL.nil ?_
                exact ⟨rfl, ⟨_, rfl, rfl⟩, .inl ⟨e19, trivial, trivial, List.Perm.refl _⟩⟩
              · exact hS.hi 19 rfl (by kernel_rfl) e19
            · intro ρ L D hS
              rcases hS.sp with ⟨e19, -, hρ, hL⟩ | ⟨e19, -, A111, cp111, Lr111, hp0, hρ, hL⟩
              · have u92 : ρ 92 = .agg ev.cells.toArray := hS.dep ⟨0, Ground.data⟩ (by simp) rfl _ _ rfl rfl
                have u93 : ρ 93 = .agg ev.cells.toArray := hS.dep ⟨1, Ground.data⟩ (by simp) rfl _ _ rfl rfl
                clear hS hρ
                obtain ⟨base, rfl⟩ := Has.base (ρ := ρ) (l := [(92, .agg ev.cells.toArray), (93, .agg ev.cells.toArray)]) ⟨u92, u93, trivial⟩
                clear u92 u93
                refine RL.perm (L' := ((b20, cel 30 ev.cells) :: (Lr6 ++ ((fb, cel 53 [.slice Af l.length cf, .int .i64 arg, .int .i64 t2.pc, .slice A6 t2.st.length cp6, .bool t2.calls, .bool t2.over]) :: (Lr7 ++ ((xb, cel 46 [.slice Ax l.length cx, .int .i64 arg, .int .i64 t2.pc, .slice A7 t2.st.length cp7, .bool t2.calls, .bool t2.over]) :: (Lf ++ (Lx ++ [(b18, cel 30 ev.cells)])))))))) rfl hL.symm ?_
                clear hL
                refine RL.neA rfl eqg_ev rfl rfl (eq_ev _ _) (fun hne => absurd rfl hne) (fun _ => ?_)
                refine RL.nil ?_
                exact ⟨rfl, ⟨_, rfl, rfl⟩, .inl ⟨e19, trivial, trivial, List.Perm.refl _⟩⟩
              · exact hS.hi 19 rfl (by kernel_rfl) e19
            · intro ρ L D hS
              rcases hS.sp with ⟨e19, -, hρ, hL⟩ | ⟨e19, -, A111, cp111, Lr111, hp0, hρ, hL⟩
              · have u94 : ρ 94 = .bool false := hS.dep ⟨2, Ground.data⟩ (by simp) rfl _ _ rfl rfl
                clear hS hρ
                obtain ⟨base, rfl⟩ := Has.base (ρ := ρ) (l := [(94, .bool false)]) ⟨u94, trivial⟩
                clear u94
                refine RL.perm (L' := ((b20, cel 30 ev.cells) :: (Lr6 ++ ((fb, cel 53 [.slice Af l.length cf, .int .i64 arg, .int .i64 t2.pc, .slice A6 t2.st.length cp6, .bool t2.calls, .bool t2.over]) :: (Lr7 ++ ((xb, cel 46 [.slice Ax l.length cx, .int .i64 arg, .int .i64 t2.pc, .slice A7 t2.st.length cp7, .bool t2.calls, .bool t2.over]) :: (Lf ++ (Lx ++ [(b18, cel 30 ev.cells)])))))))) rfl hL.symm ?_
                clear hL
                refine RL.move rfl ?_
                refine RL.nil ?_
                exact ⟨rfl, ⟨_, rfl, rfl⟩, .inl ⟨e19, trivial, trivial, List.Perm.refl _⟩⟩
              · exact hS.hi 19 rfl (by kernel_rfl) e19
            · intro ρ L D hS
              rcases hS.sp with ⟨e19, -, hρ, hL⟩ | ⟨e19, -, A111, cp111, Lr111, hp0, hρ, hL⟩
              · have u19 : ρ 19 = .int .i64 v2 := hS.fix 19 (by decide)
                have u95 : ρ 95 = .bool false := hS.dep ⟨3, Ground.guard⟩ (by simp) rfl _ _ rfl rfl
                clear hS hρ
                obtain ⟨base, rfl⟩ := Has.base (ρ := ρ) (l := [(19, .int .i64 v2), (95, .bool false)]) ⟨u19, u95, trivial⟩
                clear u19 u95
                refine RL.perm (L' := ((b20, cel 30 ev.cells) :: (Lr6 ++ ((fb, cel 53 [.slice Af l.length cf, .int .i64 arg, .int .i64 t2.pc, .slice A6 t2.st.length cp6, .bool t2.calls, .bool t2.over]) :: (Lr7 ++ ((xb, cel 46 [.slice Ax l.length cx, .int .i64 arg, .int .i64 t2.pc, .slice A7 t2.st.length cp7, .bool t2.calls, .bool t2.over]) :: (Lf ++ (Lx ++ [(b18, cel 30 ev.cells)])))))))) rfl hL.symm ?_
                clear hL
                refine RL.move rfl ?_
                refine RL.nil ?_
                exact ⟨rfl, ⟨_, rfl, rfl⟩, .inl ⟨e19, trivial, trivial, List.Perm.refl _⟩⟩
              · exact hS.hi 19 rfl (by kernel_rfl) e19
            · intro ρ L D hS
              rcases hS.sp with ⟨e19, -, hρ, hL⟩ | ⟨e19, -, A111, cp111, Lr111, hp0, hρ, hL⟩
              · have u21 : ρ 21 = .int .i64 v2 := hS.fix 21 (by decide)
                have u95 : ρ 95 = .bool false := hS.dep ⟨3, Ground.guard⟩ (by simp) rfl _ _ rfl rfl
                clear hS hρ
                obtain ⟨base, rfl⟩ := Has.base (ρ := ρ) (l := [(21, .int .i64 v2), (95, .bool false)]) ⟨u21, u95, trivial⟩
                clear u21 u95
                refine RL.perm (L' := ((b20, cel 30 ev.cells) :: (Lr6 ++ ((fb, cel 53 [.slice Af l.length cf, .int .i64 arg, .int .i64 t2.pc, .slice A6 t2.st.length cp6, .bool t2.calls, .bool t2.over]) :: (Lr7 ++ ((xb, cel 46 [.slice Ax l.length cx, .int .i64 arg, .int .i64 t2.pc, .slice A7 t2.st.length cp7, .bool t2.calls, .bool t2.over]) :: (Lf ++ (Lx ++ [(b18, cel 30 ev.cells)])))))))) rfl hL.symm ?_
                clear hL
                refine RL.move rfl ?_
                refine RL.nil ?_
                exact ⟨rfl, ⟨_, rfl, rfl⟩, .inl ⟨e19, trivial, trivial, List.Perm.refl _⟩⟩
              · exact hS.hi 19 rfl (by kernel_rfl) e19
            · intro ρ L D hS
              rcases hS.sp with ⟨e19, -, hρ, hL⟩ | ⟨e19, -, A111, cp111, Lr111, hp0, hρ, hL⟩
              · have u95 : ρ 95 = .bool false := hS.dep ⟨3, Ground.guard⟩ (by simp) rfl _ _ rfl rfl
                have u96 : ρ 96 = .int .i64 v2 := hS.dep ⟨4, Ground.data⟩ (by simp) rfl _ _ rfl rfl
                have u97 : ρ 97 = .int .i64 v2 := hS.dep ⟨5, Ground.data⟩ (by simp) rfl _ _ rfl rfl
                clear hS hρ
                obtain ⟨base, rfl⟩ := Has.base (ρ := ρ) (l := [(95, .bool false), (96, .int .i64 v2), (97, .int .i64 v2)]) ⟨u95, u96, u97, trivial⟩
                clear u95 u96 u97
                refine RL.perm (L' := ((b20, cel 30 ev.cells) :: (Lr6 ++ ((fb, cel 53 [.slice Af l.length cf, .int .i64 arg, .int .i64 t2.pc, .slice A6 t2.st.length cp6, .bool t2.calls, .bool t2.over]) :: (Lr7 ++ ((xb, cel 46 [.slice Ax l.length cx, .int .i64 arg, .int .i64 t2.pc, .slice A7 t2.st.length cp7, .bool t2.calls, .bool t2.over]) :: (Lf ++ (Lx ++ [(b18, cel 30 ev.cells)])))))))) rfl hL.symm ?_
                clear hL
                refine RL.cmp_f rfl rfl rfl rfl (by show ¬ ((_ : Int) ≠ _); exact fun h => h rfl) ?_
                refine RL.nil ?_
                exact ⟨rfl, ⟨_, rfl, rfl⟩, .inl ⟨e19, trivial, trivial, List.Perm.refl _⟩⟩
              · exact hS.hi 19 rfl (by kernel_rfl) e19
            · intro ρ L D hS
              rcases hS.sp with ⟨e19, -, hρ, hL⟩ | ⟨e19, -, A111, cp111, Lr111, hp0, hρ, hL⟩
              · have u95 : ρ 95 = .bool false := hS.dep ⟨3, Ground.data⟩ (by simp) rfl _ _ rfl rfl
                have u98 : ρ 98 = .bool false := hS.dep ⟨6, Ground.data⟩ (by simp) rfl _ _ rfl rfl
                clear hS hρ
                obtain ⟨base, rfl⟩ := Has.base (ρ := ρ) (l := [(95, .bool false), (98, .bool false)]) ⟨u95, u98, trivial⟩
                clear u95 u98
                refine RL.perm (L' := ((b20, cel 30 ev.cells) :: (Lr6 ++ ((fb, cel 53 [.slice Af l.length cf, .int .i64 arg, .int .i64 t2.pc, .slice A6 t2.st.length cp6, .bool t2.calls, .bool t2.over]) :: (Lr7 ++ ((xb, cel 46 [.slice Ax l.length cx, .int .i64 arg, .int .i64 t2.pc, .slice A7 t2.st.length cp7, .bool t2.calls, .bool t2.over]) :: (Lf ++ (Lx ++ [(b18, cel 30 ev.cells)])))))))) rfl hL.symm ?_
                clear hL
                refine RL.pick_f rfl rfl ?_
                refine RL.nil ?_
                exact ⟨rfl, ⟨_, rfl, rfl⟩, .inl ⟨e19, trivial, trivial, List.Perm.refl _⟩⟩
              · exact hS.hi 19 rfl (by kernel_rfl) e19
            · intro ρ L D hS
              rcases hS.sp with ⟨e19, -, hρ, hL⟩ | ⟨e19, -, A111, cp111, Lr111, hp0, hρ, hL⟩
              · have u99 : ρ 99 = .bool false := hS.dep ⟨7, Ground.data⟩ (by simp) rfl _ _ rfl rfl
                clear hS hρ
                obtain ⟨base, rfl⟩ := Has.base (ρ := ρ) (l := [(99, .bool false)]) ⟨u99, trivial⟩
                clear u99
                refine RL.perm (L' := ((b20, cel 30 ev.cells) :: (Lr6 ++ ((fb, cel 53 [.slice Af l.length cf, .int .i64 arg, .int .i64 t2.pc, .slice A6 t2.st.length cp6, .bool t2.calls, .bool t2.over]) :: (Lr7 ++ ((xb, cel 46 [.slice Ax l.length cx, .int .i64 arg, .int .i64 t2.pc, .slice A7 t2.st.length cp7, .bool t2.calls, .bool t2.over]) :: (Lf ++ (Lx ++ [(b18, cel 30 ev.cells)])))))))) rfl hL.symm ?_
                clear hL
                refine RL.move rfl ?_
                refine RL.nil ?_
                exact ⟨rfl, ⟨_, rfl, rfl⟩, .inl ⟨e19, trivial, trivial, List.Perm.refl _⟩⟩
              · exact hS.hi 19 rfl (by kernel_rfl) e19
            · intro ρ L D hS
              rcases hS.sp with ⟨e19, -, hρ, hL⟩ | ⟨e19, -, A111, cp111, Lr111, hp0, hρ, hL⟩
              · have u9 : ρ 9 = .pointer (some ⟨fb, 0, none⟩) := hS.fix 9 (by decide)
                have u100 : ρ 100 = .bool false := hS.dep ⟨8, Ground.guard⟩ (by simp) rfl _ _ rfl rfl
                clear hS hρ
                obtain ⟨base, rfl⟩ := Has.base (ρ := ρ) (l := [(9, .pointer (some ⟨fb, 0, none⟩)), (100, .bool false)]) ⟨u9, u100, trivial⟩
                clear u9 u100
                refine RL.perm (L' := ((b20, cel 30 ev.cells) :: (Lr6 ++ ((fb, cel 53 [.slice Af l.length cf, .int .i64 arg, .int .i64 t2.pc, .slice A6 t2.st.length cp6, .bool t2.calls, .bool t2.over]) :: (Lr7 ++ ((xb, cel 46 [.slice Ax l.length cx, .int .i64 arg, .int .i64 t2.pc, .slice A7 t2.st.length cp7, .bool t2.calls, .bool t2.over]) :: (Lf ++ (Lx ++ [(b18, cel 30 ev.cells)])))))))) rfl hL.symm ?_
                clear hL
                refine RL.move rfl ?_
                refine RL.nil ?_
                exact ⟨rfl, ⟨_, rfl, rfl⟩, .inl ⟨e19, trivial, trivial, List.Perm.refl _⟩⟩
              · exact hS.hi 19 rfl (by kernel_rfl) e19
            · intro ρ L D hS
              rcases hS.sp with ⟨e19, -, hρ, hL⟩ | ⟨e19, -, A111, cp111, Lr111, hp0, hρ, hL⟩
              · have u100 : ρ 100 = .bool false := hS.dep ⟨8, Ground.chain⟩ (by simp) rfl _ _ rfl rfl
                have u101 : ρ 101 = .pointer (some ⟨fb, 0, none⟩) := hS.dep ⟨9, Ground.data⟩ (by simp) rfl _ _ rfl rfl
                clear hS hρ
                obtain ⟨base, rfl⟩ := Has.base (ρ := ρ) (l := [(100, .bool false), (101, .pointer (some ⟨fb, 0, none⟩))]) ⟨u100, u101, trivial⟩
                clear u100 u101
                refine RL.perm (L' := ((b20, cel 30 ev.cells) :: (Lr6 ++ ((fb, cel 53 [.slice Af l.length cf, .int .i64 arg, .int .i64 t2.pc, .slice A6 t2.st.length cp6, .bool t2.calls, .bool t2.over]) :: (Lr7 ++ ((xb, cel 46 [.slice Ax l.length cx, .int .i64 arg, .int .i64 t2.pc, .slice A7 t2.st.length cp7, .bool t2.calls, .bool t2.over]) :: (Lf ++ (Lx ++ [(b18, cel 30 ev.cells)])))))))) rfl hL.symm ?_
                clear hL
                refine RL.fnQ rfl rfl en16 (fun w hw => f_at fb (.slice Af l.length cf) (.int .i64 arg) (.slice A6 t2.st.length cp6) (.bool t2.calls) (.bool t2.over) t2.pc w (hw.own (fb, _) (by simp))) rfl ?_
                refine RL.nil ?_
                exact ⟨rfl, ⟨_, rfl, rfl⟩, .inl ⟨e19, trivial, trivial, List.Perm.refl _⟩⟩
              · exact hS.hi 19 rfl (by kernel_rfl) e19
            · intro ρ L D hS
              rcases hS.sp with ⟨e19, -, hρ, hL⟩ | ⟨e19, -, A111, cp111, Lr111, hp0, hρ, hL⟩
              · have u14 : ρ 14 = .pointer (some ⟨xb, 0, none⟩) := hS.fix 14 (by decide)
                have u100 : ρ 100 = .bool false := hS.dep ⟨8, Ground.guard⟩ (by simp) rfl _ _ rfl rfl
                clear hS hρ
                obtain ⟨base, rfl⟩ := Has.base (ρ := ρ) (l := [(14, .pointer (some ⟨xb, 0, none⟩)), (100, .bool false)]) ⟨u14, u100, trivial⟩
                clear u14 u100
                refine RL.perm (L' := ((b20, cel 30 ev.cells) :: (Lr6 ++ ((fb, cel 53 [.slice Af l.length cf, .int .i64 arg, .int .i64 t2.pc, .slice A6 t2.st.length cp6, .bool t2.calls, .bool t2.over]) :: (Lr7 ++ ((xb, cel 46 [.slice Ax l.length cx, .int .i64 arg, .int .i64 t2.pc, .slice A7 t2.st.length cp7, .bool t2.calls, .bool t2.over]) :: (Lf ++ (Lx ++ [(b18, cel 30 ev.cells)])))))))) rfl hL.symm ?_
                clear hL
                refine RL.move rfl ?_
                refine RL.nil ?_
                exact ⟨rfl, ⟨_, rfl, rfl⟩, .inl ⟨e19, trivial, trivial, List.Perm.refl _⟩⟩
              · exact hS.hi 19 rfl (by kernel_rfl) e19
            · intro ρ L D hS
              rcases hS.sp with ⟨e19, -, hρ, hL⟩ | ⟨e19, -, A111, cp111, Lr111, hp0, hρ, hL⟩
              · have u100 : ρ 100 = .bool false := hS.dep ⟨8, Ground.guard⟩ (by simp) rfl _ _ rfl rfl
                have u103 : ρ 103 = .pointer (some ⟨xb, 0, none⟩) := hS.dep ⟨11, Ground.data⟩ (by simp) rfl _ _ rfl rfl
                clear hS hρ
                obtain ⟨base, rfl⟩ := Has.base (ρ := ρ) (l := [(100, .bool false), (103, .pointer (some ⟨xb, 0, none⟩))]) ⟨u100, u103, trivial⟩
                clear u100 u103
                refine RL.perm (L' := ((b20, cel 30 ev.cells) :: (Lr6 ++ ((fb, cel 53 [.slice Af l.length cf, .int .i64 arg, .int .i64 t2.pc, .slice A6 t2.st.length cp6, .bool t2.calls, .bool t2.over]) :: (Lr7 ++ ((xb, cel 46 [.slice Ax l.length cx, .int .i64 arg, .int .i64 t2.pc, .slice A7 t2.st.length cp7, .bool t2.calls, .bool t2.over]) :: (Lf ++ (Lx ++ [(b18, cel 30 ev.cells)])))))))) rfl hL.symm ?_
                clear hL
                refine RL.nilCheck rfl rfl ?_
                refine RL.nil ?_
                exact ⟨rfl, ⟨_, rfl, rfl⟩, .inl ⟨e19, trivial, trivial, List.Perm.refl _⟩⟩
              · exact hS.hi 19 rfl (by kernel_rfl) e19
            · intro ρ L D hS
              rcases hS.sp with ⟨e19, -, hρ, hL⟩ | ⟨e19, -, A111, cp111, Lr111, hp0, hρ, hL⟩
              · have u100 : ρ 100 = .bool false := hS.dep ⟨8, Ground.guard⟩ (by simp) rfl _ _ rfl rfl
                have u104 : ρ 104 = .pointer (some ⟨xb, 0, none⟩) := hS.dep ⟨12, Ground.data⟩ (by simp) rfl _ _ rfl rfl
                clear hS hρ
                obtain ⟨base, rfl⟩ := Has.base (ρ := ρ) (l := [(100, .bool false), (104, .pointer (some ⟨xb, 0, none⟩))]) ⟨u100, u104, trivial⟩
                clear u100 u104
                refine RL.perm (L' := ((b20, cel 30 ev.cells) :: (Lr6 ++ ((fb, cel 53 [.slice Af l.length cf, .int .i64 arg, .int .i64 t2.pc, .slice A6 t2.st.length cp6, .bool t2.calls, .bool t2.over]) :: (Lr7 ++ ((xb, cel 46 [.slice Ax l.length cx, .int .i64 arg, .int .i64 t2.pc, .slice A7 t2.st.length cp7, .bool t2.calls, .bool t2.over]) :: (Lf ++ (Lx ++ [(b18, cel 30 ev.cells)])))))))) rfl hL.symm ?_
                clear hL
                refine RL.fieldAddr rfl fd46_2 rfl ?_
                refine RL.nil ?_
                exact ⟨rfl, ⟨_, rfl, rfl⟩, .inl ⟨e19, trivial, trivial, List.Perm.refl _⟩⟩
              · exact hS.hi 19 rfl (by kernel_rfl) e19
            · intro ρ L D hS
              rcases hS.sp with ⟨e19, -, hρ, hL⟩ | ⟨e19, -, A111, cp111, Lr111, hp0, hρ, hL⟩
              · have u100 : ρ 100 = .bool false := hS.dep ⟨8, Ground.guard⟩ (by simp) rfl _ _ rfl rfl
                have u105 : ρ 105 = .pointer (some ⟨xb, 0 + 2, none⟩) := hS.dep ⟨13, Ground.data⟩ (by simp) rfl _ _ rfl rfl
                clear hS hρ
                obtain ⟨base, rfl⟩ := Has.base (ρ := ρ) (l := [(100, .bool false), (105, .pointer (some ⟨xb, 0 + 2, none⟩))]) ⟨u100, u105, trivial⟩
                clear u100 u105
                refine RL.perm (L' := ((b20, cel 30 ev.cells) :: (Lr6 ++ ((fb, cel 53 [.slice Af l.length cf, .int .i64 arg, .int .i64 t2.pc, .slice A6 t2.st.length cp6, .bool t2.calls, .bool t2.over]) :: (Lr7 ++ ((xb, cel 46 [.slice Ax l.length cx, .int .i64 arg, .int .i64 t2.pc, .slice A7 t2.st.length cp7, .bool t2.calls, .bool t2.over]) :: (Lf ++ (Lx ++ [(b18, cel 30 ev.cells)])))))))) rfl hL.symm ?_
                clear hL
                refine RL.loadO rfl sc3 rfl rfl ?_
                refine RL.nil ?_
                exact ⟨rfl, ⟨_, rfl, rfl⟩, .inl ⟨e19, trivial, trivial, List.Perm.refl _⟩⟩
              · exact hS.hi 19 rfl (by kernel_rfl) e19
            · intro ρ L D hS
              rcases hS.sp with ⟨e19, -, hρ, hL⟩ | ⟨e19, -, A111, cp111, Lr111, hp0, hρ, hL⟩
              · have u100 : ρ 100 = .bool false := hS.dep ⟨8, Ground.guard⟩ (by simp) rfl _ _ rfl rfl
                have u102 : ρ 102 = .int .i64 t2.pc := hS.dep ⟨10, Ground.data⟩ (by simp) rfl _ _ rfl rfl
                have u106 : ρ 106 = .int .i64 t2.pc := hS.dep ⟨14, Ground.data⟩ (by simp) rfl _ _ rfl rfl
                clear hS hρ
                obtain ⟨base, rfl⟩ := Has.base (ρ := ρ) (l := [(100, .bool false), (102, .int .i64 t2.pc), (106, .int .i64 t2.pc)]) ⟨u100, u102, u106, trivial⟩
                clear u100 u102 u106
                refine RL.perm (L' := ((b20, cel 30 ev.cells) :: (Lr6 ++ ((fb, cel 53 [.slice Af l.length cf, .int .i64 arg, .int .i64 t2.pc, .slice A6 t2.st.length cp6, .bool t2.calls, .bool t2.over]) :: (Lr7 ++ ((xb, cel 46 [.slice Ax l.length cx, .int .i64 arg, .int .i64 t2.pc, .slice A7 t2.st.length cp7, .bool t2.calls, .bool t2.over]) :: (Lf ++ (Lx ++ [(b18, cel 30 ev.cells)])))))))) rfl hL.symm ?_
                clear hL
                refine RL.cmp_f rfl rfl rfl rfl (by show ¬ ((_ : Int) ≠ _); exact fun h => h rfl) ?_
                refine RL.nil ?_
                exact ⟨rfl, ⟨_, rfl, rfl⟩, .inl ⟨e19, trivial, trivial, List.Perm.refl _⟩⟩
              · exact hS.hi 19 rfl (by kernel_rfl) e19
            · intro ρ L D hS
              rcases hS.sp with ⟨e19, -, hρ, hL⟩ | ⟨e19, -, A111, cp111, Lr111, hp0, hρ, hL⟩
              · have u100 : ρ 100 = .bool false := hS.dep ⟨8, Ground.data⟩ (by simp) rfl _ _ rfl rfl
                have u107 : ρ 107 = .bool false := hS.dep ⟨15, Ground.data⟩ (by simp) rfl _ _ rfl rfl
                clear hS hρ
                obtain ⟨base, rfl⟩ := Has.base (ρ := ρ) (l := [(100, .bool false), (107, .bool false)]) ⟨u100, u107, trivial⟩
                clear u100 u107
                refine RL.perm (L' := ((b20, cel 30 ev.cells) :: (Lr6 ++ ((fb, cel 53 [.slice Af l.length cf, .int .i64 arg, .int .i64 t2.pc, .slice A6 t2.st.length cp6, .bool t2.calls, .bool t2.over]) :: (Lr7 ++ ((xb, cel 46 [.slice Ax l.length cx, .int .i64 arg, .int .i64 t2.pc, .slice A7 t2.st.length cp7, .bool t2.calls, .bool t2.over]) :: (Lf ++ (Lx ++ [(b18, cel 30 ev.cells)])))))))) rfl hL.symm ?_
                clear hL
                refine RL.pick_f rfl rfl ?_
                refine RL.nil ?_
                exact ⟨rfl, ⟨_, rfl, rfl⟩, .inl ⟨e19, trivial, trivial, List.Perm.refl _⟩⟩
              · exact hS.hi 19 rfl (by kernel_rfl) e19
            · intro ρ L D hS
              rcases hS.sp with ⟨e19, -, hρ, hL⟩ | ⟨e19, -, A111, cp111, Lr111, hp0, hρ, hL⟩
              · have u108 : ρ 108 = .bool false := hS.dep ⟨16, Ground.data⟩ (by simp) rfl _ _ rfl rfl
                clear hS hρ
                obtain ⟨base, rfl⟩ := Has.base (ρ := ρ) (l := [(108, .bool false)]) ⟨u108, trivial⟩
                clear u108
                refine RL.perm (L' := ((b20, cel 30 ev.cells) :: (Lr6 ++ ((fb, cel 53 [.slice Af l.length cf, .int .i64 arg, .int .i64 t2.pc, .slice A6 t2.st.length cp6, .bool t2.calls, .bool t2.over]) :: (Lr7 ++ ((xb, cel 46 [.slice Ax l.length cx, .int .i64 arg, .int .i64 t2.pc, .slice A7 t2.st.length cp7, .bool t2.calls, .bool t2.over]) :: (Lf ++ (Lx ++ [(b18, cel 30 ev.cells)])))))))) rfl hL.symm ?_
                clear hL
                refine RL.move rfl ?_
                refine RL.nil ?_
                exact ⟨rfl, ⟨_, rfl, rfl⟩, .inl ⟨e19, trivial, trivial, List.Perm.refl _⟩⟩
              · exact hS.hi 19 rfl (by kernel_rfl) e19
            · intro ρ L D hS
              rcases hS.sp with ⟨e19, -, hρ, hL⟩ | ⟨e19, -, A111, cp111, Lr111, hp0, hρ, hL⟩
              · have u9 : ρ 9 = .pointer (some ⟨fb, 0, none⟩) := hS.fix 9 (by decide)
                have u109 : ρ 109 = .bool false := hS.dep ⟨17, Ground.guard⟩ (by simp) rfl _ _ rfl rfl
                clear hS hρ
                obtain ⟨base, rfl⟩ := Has.base (ρ := ρ) (l := [(9, .pointer (some ⟨fb, 0, none⟩)), (109, .bool false)]) ⟨u9, u109, trivial⟩
                clear u9 u109
                refine RL.perm (L' := ((b20, cel 30 ev.cells) :: (Lr6 ++ ((fb, cel 53 [.slice Af l.length cf, .int .i64 arg, .int .i64 t2.pc, .slice A6 t2.st.length cp6, .bool t2.calls, .bool t2.over]) :: (Lr7 ++ ((xb, cel 46 [.slice Ax l.length cx, .int .i64 arg, .int .i64 t2.pc, .slice A7 t2.st.length cp7, .bool t2.calls, .bool t2.over]) :: (Lf ++ (Lx ++ [(b18, cel 30 ev.cells)])))))))) rfl hL.symm ?_
                clear hL
                refine RL.move rfl ?_
                refine RL.nil ?_
                exact ⟨rfl, ⟨_, rfl, rfl⟩, .inl ⟨e19, trivial, trivial, List.Perm.refl _⟩⟩
              · exact hS.hi 19 rfl (by kernel_rfl) e19
            · intro ρ L D hS
              rcases hS.sp with ⟨e19, -, hρ, hL⟩ | ⟨e19, -, A111, cp111, Lr111, hp0, hρ, hL⟩
              · have u109 : ρ 109 = .bool false := hS.dep ⟨17, Ground.chain⟩ (by simp) rfl _ _ rfl rfl
                have u110 : ρ 110 = .pointer (some ⟨fb, 0, none⟩) := hS.dep ⟨18, Ground.data⟩ (by simp) rfl _ _ rfl rfl
                clear hS hρ
                obtain ⟨base, rfl⟩ := Has.base (ρ := ρ) (l := [(109, .bool false), (110, .pointer (some ⟨fb, 0, none⟩))]) ⟨u109, u110, trivial⟩
                clear u109 u110
                refine RL.perm (L' := ((b20, cel 30 ev.cells) :: (Lr6 ++ ((fb, cel 53 [.slice Af l.length cf, .int .i64 arg, .int .i64 t2.pc, .slice A6 t2.st.length cp6, .bool t2.calls, .bool t2.over]) :: (Lr7 ++ ((xb, cel 46 [.slice Ax l.length cx, .int .i64 arg, .int .i64 t2.pc, .slice A7 t2.st.length cp7, .bool t2.calls, .bool t2.over]) :: (Lf ++ (Lx ++ [(b18, cel 30 ev.cells)])))))))) rfl hL.symm ?_
                clear hL
                refine RL.fn0 rfl rfl rfl en11 (fun w hw => ((f_stk t2.st (by omega) A6 cp6 fb (.slice Af l.length cf) (.int .i64 arg) (.int .i64 t2.pc) (.bool t2.calls) (.bool t2.over) 99 w (hw.own (fb, _) (by simp)) (row_rd hr6 hw (fun p hp => by simp [hp])))).mono (fun v L h => (by rw [List.take_of_length_le (by omega)] at h; exact h : ∃ A2 cp2 Lr2, v = .slice A2 t2.st.length cp2 ∧ Row 2 1 (.slice A2 t2.st.length cp2) (ints t2.st) Lr2 ∧ Lr2.Sublist L))) rfl ?_
                rintro _ _ ⟨A111, cp111, Lr111, rfl, hr111, hs111⟩
                refine RL.drop rfl (hs111.append (List.Sublist.refl _)) ?_
                refine RL.nil ?_
                exact ⟨rfl, ⟨_, rfl, trivial⟩, .inr (⟨rfl, trivial, A111, cp111, Lr111, hr111, ⟨rfl, trivial⟩, (by classical exact List.perm_iff_count.2 (fun z => by simp only [List.count_append, List.count_cons, List.count_nil, List.cons_append, List.nil_append, List.append_nil, List.set_cons_zero, List.set_cons_succ] <;> omega))⟩)⟩
              · exact hS.me e19
            · intro ρ L D hS
              rcases hS.sp with ⟨e19, -, hρ, hL⟩ | ⟨e19, -, A111, cp111, Lr111, hp0, hρ, hL⟩
              · have u14 : ρ 14 = .pointer (some ⟨xb, 0, none⟩) := hS.fix 14 (by decide)
                have u109 : ρ 109 = .bool false := hS.dep ⟨17, Ground.guard⟩ (by simp) rfl _ _ rfl rfl
                clear hS hρ
                obtain ⟨base, rfl⟩ := Has.base (ρ := ρ) (l := [(14, .pointer (some ⟨xb, 0, none⟩)), (109, .bool false)]) ⟨u14, u109, trivial⟩
                clear u14 u109
                refine RL.perm (L' := ((b20, cel 30 ev.cells) :: (Lr6 ++ ((fb, cel 53 [.slice Af l.length cf, .int .i64 arg, .int .i64 t2.pc, .slice A6 t2.st.length cp6, .bool t2.calls, .bool t2.over]) :: (Lr7 ++ ((xb, cel 46 [.slice Ax l.length cx, .int .i64 arg, .int .i64 t2.pc, .slice A7 t2.st.length cp7, .bool t2.calls, .bool t2.over]) :: (Lf ++ (Lx ++ [(b18, cel 30 ev.cells)])))))))) rfl hL.symm ?_
                clear hL
                refine RL.move rfl ?_
                refine RL.nil ?_
                exact ⟨rfl, ⟨_, rfl, rfl⟩, .inl ⟨e19, trivial, trivial, List.Perm.refl _⟩⟩
              · have u14 : ρ 14 = .pointer (some ⟨xb, 0, none⟩) := hS.fix 14 (by decide)
                have u109 : ρ 109 = .bool false := hS.dep ⟨17, Ground.guard⟩ (by simp) rfl _ _ rfl rfl
                have u111 : ρ 111 = .slice A111 t2.st.length cp111 := hρ.1
                clear hS hρ
                obtain ⟨base, rfl⟩ := Has.base (ρ := ρ) (l := [(14, .pointer (some ⟨xb, 0, none⟩)), (109, .bool false), (111, .slice A111 t2.st.length cp111)]) ⟨u14, u109, u111, trivial⟩
                clear u14 u109 u111
                refine RL.perm (L' := (((b20, cel 30 ev.cells) :: (Lr6 ++ ((fb, cel 53 [.slice Af l.length cf, .int .i64 arg, .int .i64 t2.pc, .slice A6 t2.st.length cp6, .bool t2.calls, .bool t2.over]) :: (Lr7 ++ ((xb, cel 46 [.slice Ax l.length cx, .int .i64 arg, .int .i64 t2.pc, .slice A7 t2.st.length cp7, .bool t2.calls, .bool t2.over]) :: (Lf ++ (Lx ++ [(b18, cel 30 ev.cells)]))))))) ++ (Lr111))) rfl hL.symm ?_
                clear hL
                refine RL.move rfl ?_
                refine RL.nil ?_
                exact ⟨rfl, ⟨_, rfl, rfl⟩, .inr (⟨e19, trivial, A111, cp111, Lr111, hp0, ⟨rfl, trivial⟩, List.Perm.refl _⟩)⟩
            · intro ρ L D hS
              rcases hS.sp with ⟨e19, -, hρ, hL⟩ | ⟨e19, -, A111, cp111, Lr111, hp0, hρ, hL⟩
              · have u109 : ρ 109 = .bool false := hS.dep ⟨17, Ground.guard⟩ (by simp) rfl _ _ rfl rfl
                have u112 : ρ 112 = .pointer (some ⟨xb, 0, none⟩) := hS.dep ⟨20, Ground.data⟩ (by simp) rfl _ _ rfl rfl
                clear hS hρ
                obtain ⟨base, rfl⟩ := Has.base (ρ := ρ) (l := [(109, .bool false), (112, .pointer (some ⟨xb, 0, none⟩))]) ⟨u109, u112, trivial⟩
                clear u109 u112
                refine RL.perm (L' := ((b20, cel 30 ev.cells) :: (Lr6 ++ ((fb, cel 53 [.slice Af l.length cf, .int .i64 arg, .int .i64 t2.pc, .slice A6 t2.st.length cp6, .bool t2.calls, .bool t2.over]) :: (Lr7 ++ ((xb, cel 46 [.slice Ax l.length cx, .int .i64 arg, .int .i64 t2.pc, .slice A7 t2.st.length cp7, .bool t2.calls, .bool t2.over]) :: (Lf ++ (Lx ++ [(b18, cel 30 ev.cells)])))))))) rfl hL.symm ?_
                clear hL
                refine RL.nilCheck rfl rfl ?_
                refine RL.nil ?_
                exact ⟨rfl, ⟨_, rfl, rfl⟩, .inl ⟨e19, trivial, trivial, List.Perm.refl _⟩⟩
              · have u109 : ρ 109 = .bool false := hS.dep ⟨17, Ground.guard⟩ (by simp) rfl _ _ rfl rfl
                have u111 : ρ 111 = .slice A111 t2.st.length cp111 := hρ.1
                have u112 : ρ 112 = .pointer (some ⟨xb, 0, none⟩) := hS.dep ⟨20, Ground.data⟩ (by simp) rfl _ _ rfl rfl
                clear hS hρ
                obtain ⟨base, rfl⟩ := Has.base (ρ := ρ) (l := [(109, .bool false), (111, .slice A111 t2.st.length cp111), (112, .pointer (some ⟨xb, 0, none⟩))]) ⟨u109, u111, u112, trivial⟩
                clear u109 u111 u112
                refine RL.perm (L' := (((b20, cel 30 ev.cells) :: (Lr6 ++ ((fb, cel 53 [.slice Af l.length cf, .int .i64 arg, .int .i64 t2.pc, .slice A6 t2.st.length cp6, .bool t2.calls, .bool t2.over]) :: (Lr7 ++ ((xb, cel 46 [.slice Ax l.length cx, .int .i64 arg, .int .i64 t2.pc, .slice A7 t2.st.length cp7, .bool t2.calls, .bool t2.over]) :: (Lf ++ (Lx ++ [(b18, cel 30 ev.cells)]))))))) ++ (Lr111))) rfl hL.symm ?_
                clear hL
                refine RL.nilCheck rfl rfl ?_
                refine RL.nil ?_
                exact ⟨rfl, ⟨_, rfl, rfl⟩, .inr (⟨e19, trivial, A111, cp111, Lr111, hp0, ⟨rfl, trivial⟩, List.Perm.refl _⟩)⟩
            · intro ρ L D hS
              rcases hS.sp with ⟨e19, -, hρ, hL⟩ | ⟨e19, -, A111, cp111, Lr111, hp0, hρ, hL⟩
              · have u109 : ρ 109 = .bool false := hS.dep ⟨17, Ground.guard⟩ (by simp) rfl _ _ rfl rfl
                have u113 : ρ 113 = .pointer (some ⟨xb, 0, none⟩) := hS.dep ⟨21, Ground.data⟩ (by simp) rfl _ _ rfl rfl
                clear hS hρ
                obtain ⟨base, rfl⟩ := Has.base (ρ := ρ) (l := [(109, .bool false), (113, .pointer (some ⟨xb, 0, none⟩))]) ⟨u109, u113, trivial⟩
                clear u109 u113
                refine RL.perm (L' := ((b20, cel 30 ev.cells) :: (Lr6 ++ ((fb, cel 53 [.slice Af l.length cf, .int .i64 arg, .int .i64 t2.pc, .slice A6 t2.st.length cp6, .bool t2.calls, .bool t2.over]) :: (Lr7 ++ ((xb, cel 46 [.slice Ax l.length cx, .int .i64 arg, .int .i64 t2.pc, .slice A7 t2.st.length cp7, .bool t2.calls, .bool t2.over]) :: (Lf ++ (Lx ++ [(b18, cel 30 ev.cells)])))))))) rfl hL.symm ?_
                clear hL
                refine RL.fieldAddr rfl fd46_3 rfl ?_
                refine RL.nil ?_
                exact ⟨rfl, ⟨_, rfl, rfl⟩, .inl ⟨e19, trivial, trivial, List.Perm.refl _⟩⟩
              · have u109 : ρ 109 = .bool false := hS.dep ⟨17, Ground.guard⟩ (by simp) rfl _ _ rfl rfl
                have u111 : ρ 111 = .slice A111 t2.st.length cp111 := hρ.1
                have u113 : ρ 113 = .pointer (some ⟨xb, 0, none⟩) := hS.dep ⟨21, Ground.data⟩ (by simp) rfl _ _ rfl rfl
                clear hS hρ
                obtain ⟨base, rfl⟩ := Has.base (ρ := ρ) (l := [(109, .bool false), (111, .slice A111 t2.st.length cp111), (113, .pointer (some ⟨xb, 0, none⟩))]) ⟨u109, u111, u113, trivial⟩
                clear u109 u111 u113
                refine RL.perm (L' := (((b20, cel 30 ev.cells) :: (Lr6 ++ ((fb, cel 53 [.slice Af l.length cf, .int .i64 arg, .int .i64 t2.pc, .slice A6 t2.st.length cp6, .bool t2.calls, .bool t2.over]) :: (Lr7 ++ ((xb, cel 46 [.slice Ax l.length cx, .int .i64 arg, .int .i64 t2.pc, .slice A7 t2.st.length cp7, .bool t2.calls, .bool t2.over]) :: (Lf ++ (Lx ++ [(b18, cel 30 ev.cells)]))))))) ++ (Lr111))) rfl hL.symm ?_
                clear hL
                refine RL.fieldAddr rfl fd46_3 rfl ?_
                refine RL.nil ?_
                exact ⟨rfl, ⟨_, rfl, rfl⟩, .inr (⟨e19, trivial, A111, cp111, Lr111, hp0, ⟨rfl, trivial⟩, List.Perm.refl _⟩)⟩
            · intro ρ L D hS
              rcases hS.sp with ⟨e19, -, hρ, hL⟩ | ⟨e19, -, A111, cp111, Lr111, hp0, hρ, hL⟩
              · have u109 : ρ 109 = .bool false := hS.dep ⟨17, Ground.guard⟩ (by simp) rfl _ _ rfl rfl
                have u114 : ρ 114 = .pointer (some ⟨xb, 0 + 3, none⟩) := hS.dep ⟨22, Ground.data⟩ (by simp) rfl _ _ rfl rfl
                clear hS hρ
                obtain ⟨base, rfl⟩ := Has.base (ρ := ρ) (l := [(109, .bool false), (114, .pointer (some ⟨xb, 0 + 3, none⟩))]) ⟨u109, u114, trivial⟩
                clear u109 u114
                refine RL.perm (L' := ((b20, cel 30 ev.cells) :: (Lr6 ++ ((fb, cel 53 [.slice Af l.length cf, .int .i64 arg, .int .i64 t2.pc, .slice A6 t2.st.length cp6, .bool t2.calls, .bool t2.over]) :: (Lr7 ++ ((xb, cel 46 [.slice Ax l.length cx, .int .i64 arg, .int .i64 t2.pc, .slice A7 t2.st.length cp7, .bool t2.calls, .bool t2.over]) :: (Lf ++ (Lx ++ [(b18, cel 30 ev.cells)])))))))) rfl hL.symm ?_
                clear hL
                refine RL.loadO rfl sc35 rfl rfl ?_
                refine RL.nil ?_
                exact ⟨rfl, ⟨_, rfl, rfl⟩, .inl ⟨e19, trivial, trivial, List.Perm.refl _⟩⟩
              · have u109 : ρ 109 = .bool false := hS.dep ⟨17, Ground.guard⟩ (by simp) rfl _ _ rfl rfl
                have u111 : ρ 111 = .slice A111 t2.st.length cp111 := hρ.1
                have u114 : ρ 114 = .pointer (some ⟨xb, 0 + 3, none⟩) := hS.dep ⟨22, Ground.data⟩ (by simp) rfl _ _ rfl rfl
                clear hS hρ
                obtain ⟨base, rfl⟩ := Has.base (ρ := ρ) (l := [(109, .bool false), (111, .slice A111 t2.st.length cp111), (114, .pointer (some ⟨xb, 0 + 3, none⟩))]) ⟨u109, u111, u114, trivial⟩
                clear u109 u111 u114
                refine RL.perm (L' := (((b20, cel 30 ev.cells) :: (Lr6 ++ ((fb, cel 53 [.slice Af l.length cf, .int .i64 arg, .int .i64 t2.pc, .slice A6 t2.st.length cp6, .bool t2.calls, .bool t2.over]) :: (Lr7 ++ ((xb, cel 46 [.slice Ax l.length cx, .int .i64 arg, .int .i64 t2.pc, .slice A7 t2.st.length cp7, .bool t2.calls, .bool t2.over]) :: (Lf ++ (Lx ++ [(b18, cel 30 ev.cells)]))))))) ++ (Lr111))) rfl hL.symm ?_
                clear hL
                refine RL.loadO rfl sc35 rfl rfl ?_
                refine RL.nil ?_
                exact ⟨rfl, ⟨_, rfl, rfl⟩, .inr (⟨e19, trivial, A111, cp111, Lr111, hp0, ⟨rfl, trivial⟩, List.Perm.refl _⟩)⟩
            · intro ρ L D hS
              rcases hS.sp with ⟨e19, -, hρ, hL⟩ | ⟨e19, -, A111, cp111, Lr111, hp0, hρ, hL⟩
              · exact hS.lo 19 (by kernel_rfl) e19
              · have u109 : ρ 109 = .bool false := hS.dep ⟨17, Ground.guard⟩ (by simp) rfl _ _ rfl rfl
                have u111 : ρ 111 = .slice A111 t2.st.length cp111 := hρ.1
                have u115 : ρ 115 = .slice A7 t2.st.length cp7 := hS.dep ⟨23, Ground.data⟩ (by simp) rfl _ _ rfl rfl
                clear hS hρ
                obtain ⟨base, rfl⟩ := Has.base (ρ := ρ) (l := [(109, .bool false), (111, .slice A111 t2.st.length cp111), (115, .slice A7 t2.st.length cp7)]) ⟨u109, u111, u115, trivial⟩
                clear u109 u111 u115
                refine RL.perm (L' := (((b20, cel 30 ev.cells) :: (Lr6 ++ ((fb, cel 53 [.slice Af l.length cf, .int .i64 arg, .int .i64 t2.pc, .slice A6 t2.st.length cp6, .bool t2.calls, .bool t2.over]) :: (Lr7 ++ ((xb, cel 46 [.slice Ax l.length cx, .int .i64 arg, .int .i64 t2.pc, .slice A7 t2.st.length cp7, .bool t2.calls, .bool t2.over]) :: (Lf ++ (Lx ++ [(b18, cel 30 ev.cells)]))))))) ++ (Lr111))) rfl hL.symm ?_
                clear hL
                refine RL.fnQ rfl rfl en13 (fun w hw => (f_same t2.st t2.st A111 A7 cp111 cp7 w (by omega) (by omega) (row_rd hp0 hw (fun p hp => by simp [hp])) (row_rd hr7 hw (fun p hp => by simp [hp]))).mono (fun v L h => h.trans (by rw [decide_eq_true rfl]))) rfl ?_
                refine RL.nil ?_
                exact ⟨rfl, ⟨_, rfl, rfl⟩, .inr (⟨e19, trivial, A111, cp111, Lr111, hp0, ⟨rfl, trivial⟩, List.Perm.refl _⟩)⟩
            · intro ρ L D hS
              rcases hS.sp with ⟨e19, -, hρ, hL⟩ | ⟨e19, -, A111, cp111, Lr111, hp0, hρ, hL⟩
              · exact hS.lo 19 (by kernel_rfl) e19
              · have u109 : ρ 109 = .bool false := hS.dep ⟨17, Ground.guard⟩ (by simp) rfl _ _ rfl rfl
                have u111 : ρ 111 = .slice A111 t2.st.length cp111 := hρ.1
                have u116 : ρ 116 = .bool true := hS.dep ⟨24, Ground.data⟩ (by simp) rfl _ _ rfl rfl
                clear hS hρ
                obtain ⟨base, rfl⟩ := Has.base (ρ := ρ) (l := [(109, .bool false), (111, .slice A111 t2.st.length cp111), (116, .bool true)]) ⟨u109, u111, u116, trivial⟩
                clear u109 u111 u116
                refine RL.perm (L' := (((b20, cel 30 ev.cells) :: (Lr6 ++ ((fb, cel 53 [.slice Af l.length cf, .int .i64 arg, .int .i64 t2.pc, .slice A6 t2.st.length cp6, .bool t2.calls, .bool t2.over]) :: (Lr7 ++ ((xb, cel 46 [.slice Ax l.length cx, .int .i64 arg, .int .i64 t2.pc, .slice A7 t2.st.length cp7, .bool t2.calls, .bool t2.over]) :: (Lf ++ (Lx ++ [(b18, cel 30 ev.cells)]))))))) ++ (Lr111))) rfl hL.symm ?_
                clear hL
                refine RL.not rfl rfl ?_
                refine RL.nil ?_
                exact ⟨rfl, ⟨_, rfl, rfl⟩, .inr (⟨e19, trivial, A111, cp111, Lr111, hp0, ⟨rfl, trivial⟩, List.Perm.refl _⟩)⟩
            · intro ρ L D hS
              rcases hS.sp with ⟨e19, -, hρ, hL⟩ | ⟨e19, -, A111, cp111, Lr111, hp0, hρ, hL⟩
              · exact hS.lo 19 (by kernel_rfl) e19
              · have u109 : ρ 109 = .bool false := hS.dep ⟨17, Ground.data⟩ (by simp) rfl _ _ rfl rfl
                have u111 : ρ 111 = .slice A111 t2.st.length cp111 := hρ.1
                have u117 : ρ 117 = .bool false := hS.dep ⟨25, Ground.data⟩ (by simp) rfl _ _ rfl rfl
                clear hS hρ
                obtain ⟨base, rfl⟩ := Has.base (ρ := ρ) (l := [(109, .bool false), (111, .slice A111 t2.st.length cp111), (117, .bool false)]) ⟨u109, u111, u117, trivial⟩
                clear u109 u111 u117
                refine RL.perm (L' := (((b20, cel 30 ev.cells) :: (Lr6 ++ ((fb, cel 53 [.slice Af l.length cf, .int .i64 arg, .int .i64 t2.pc, .slice A6 t2.st.length cp6, .bool t2.calls, .bool t2.over]) :: (Lr7 ++ ((xb, cel 46 [.slice Ax l.length cx, .int .i64 arg, .int .i64 t2.pc, .slice A7 t2.st.length cp7, .bool t2.calls, .bool t2.over]) :: (Lf ++ (Lx ++ [(b18, cel 30 ev.cells)]))))))) ++ (Lr111))) rfl hL.symm ?_
                clear hL
                refine RL.pick_f rfl rfl ?_
                refine RL.nil ?_
                exact ⟨rfl, ⟨_, rfl, rfl⟩, .inr (⟨e19, trivial, A111, cp111, Lr111, hp0, ⟨rfl, trivial⟩, List.Perm.refl _⟩)⟩
            · intro ρ L D hD hT hfix hsp
              rcases hsp with ⟨e19, -, hρ, hL⟩ | ⟨e19, -, A111, cp111, Lr111, hp0, hρ, hL⟩
              · exact done_no hD 19 rfl e19
              · have u0 : ρ 0 = .slice A l.length c := hfix 0 (by decide)
                have u2 : ρ 2 = .slice B rs.length d := hfix 2 (by decide)
                have u3 : ρ 3 = .slice C vs.length e := hfix 3 (by decide)
                have u9 : ρ 9 = .pointer (some ⟨fb, 0, none⟩) := hfix 9 (by decide)
                have u14 : ρ 14 = .pointer (some ⟨xb, 0, none⟩) := hfix 14 (by decide)
                have u15 : ρ 15 = .int .i64 ru2 := hfix 15 (by decide)
                have u17 : ρ 17 = .int .i64 g := hfix 17 (by decide)
                have u19 : ρ 19 = .int .i64 v2 := hfix 19 (by decide)
                have u111 : ρ 111 = .slice A111 t2.st.length cp111 := hρ.1
                have u118 : ρ 118 = .bool false := hT 26 _ _ rfl rfl
                clear hT hfix hD hρ
                obtain ⟨base, rfl⟩ := Has.base (ρ := ρ) (l := [(0, .slice A l.length c), (2, .slice B rs.length d), (3, .slice C vs.length e), (9, .pointer (some ⟨fb, 0, none⟩)), (14, .pointer (some ⟨xb, 0, none⟩)), (15, .int .i64 ru2), (17, .int .i64 g), (19, .int .i64 v2), (111, .slice A111 t2.st.length cp111), (118, .bool false)]) ⟨u0, u2, u3, u9, u14, u15, u17, u19, u111, u118, trivial⟩
                clear u0 u2 u3 u9 u14 u15 u17 u19 u111 u118
                refine ⟨_, hL.symm, ((b20, cel 30 ev.cells) :: (Lr6 ++ ((fb, cel 53 [.slice Af l.length cf, .int .i64 arg, .int .i64 t2.pc, .slice A6 t2.st.length cp6, .bool t2.calls, .bool t2.over]) :: (Lr7 ++ ((xb, cel 46 [.slice Ax l.length cx, .int .i64 arg, .int .i64 t2.pc, .slice A7 t2.st.length cp7, .bool t2.calls, .bool t2.over]) :: (Lf ++ (Lx ++ [(b18, cel 30 ev.cells)]))))))), List.sublist_append_left _ _, ?_⟩
                refine X.cond_f rfl ?_
                refine X.skip ?_
                refine X.region rfl ?_
                refine RL.move rfl ?_
                refine RL.assign rfl ?_
                refine RL.nil ?_
                refine X.blk ?_
                refine X.region rfl ?_
                refine RL.move rfl ?_
                refine RL.add rfl rfl rfl (by omega) ?_
                refine RL.assign rfl ?_
                refine RL.nil ?_
                refine X.hyp ⟨rfl, g + 1, by omega, _, (List.Sublist.trans (List.Sublist.append (List.Sublist.refl _) (.cons_cons _ (List.Sublist.append (List.Sublist.refl _) (.cons_cons _ (List.Sublist.append (List.Sublist.refl _) (List.sublist_append_left _ _)))))) (List.sublist_cons_self _ _)), ru2, v2, t2, A6, cp6, Lr6, A7, cp7, Lr7, hok2, h82, hr6, hr7, ⟨rfl, rfl, rfl, rfl, rfl, rfl, rfl, rfl, trivial⟩, rfl⟩
      · replace hl : ¬ ((_ : Int) < _) := hl
        refine RL.nil ?_
        refine X.cond_f rfl ?_
        refine X.exit rfl ?_
        refine X.seq ?_
        refine X.region rfl ?_
        refine RL.fn0 rfl rfl rfl en10 (fun w hw => (f_awake w)) rfl ?_
        rintro _ _ rfl
        refine RL.assign rfl ?_
        refine RL.nil ?_
        refine X.ret ?_
        refine ret1 rfl ?_
        show (_ : Value) = _
        rfl
    · refine RL.nil ?_
      refine X.cond_f rfl ?_
      refine X.skip ?_
      refine X.seq ?_
      refine X.region rfl ?_
      refine RL.move rfl ?_
      refine RL.move rfl ?_
      refine RL.fn0 rfl rfl rfl en8 (fun w hw => (f_newx l hlen A c w (hrd1.st0 hw) (fun h => hv (valid_iff.1 h)) arg)) rfl ?_
      rintro _ _ rfl
      refine RL.drop rfl (List.sublist_append_right _ _) ?_
      refine RL.move rfl ?_
      refine RL.extract rfl rfl rfl ?_
      refine RL.extract rfl rfl rfl ?_
      refine RL.assign rfl ?_
      refine RL.assign rfl ?_
      refine RL.nil ?_
      refine X.seq ?_
      refine X.seq ?_
      refine X.region rfl ?_
      refine RL.move rfl ?_
      refine RL.fn0 rfl rfl rfl en14 (fun w hw => (f_height l hlen A c w (hrd1.st0 hw) 8)) rfl ?_
      rintro _ _ ⟨v1, L1, rfl, hs1, A4, cp4, rfl, hrow4⟩
      refine RL.drop rfl (List.sublist_append_right _ _) ?_
      refine RL.move rfl ?_
      refine RL.extract rfl rfl rfl ?_
      refine RL.extract rfl rfl rfl ?_
      refine RL.extract rfl rfl rfl ?_
      refine RL.assign rfl ?_
      refine RL.assign rfl ?_
      refine RL.assign rfl ?_
      refine RL.nil ?_
      refine X.seq ?_
      refine X.region rfl ?_
      refine RL.move rfl ?_
      refine RL.cmp_t rfl rfl rfl rfl (by show ((_ : Int) ≠ _); exact fun h => hv (valid_iff.1 h)) ?_
      refine RL.nil ?_
      refine X.cond_t rfl ?_
      refine X.seq ?_
      refine X.region rfl ?_
      refine RL.move rfl ?_
      refine RL.move rfl ?_
      refine RL.cmp_t rfl rfl rfl rfl (by show ((_ : Int) = _); rfl) ?_
      refine RL.move rfl ?_
      refine RL.move rfl ?_
      refine RL.eqP rfl Try.underlying22 rfl rfl rfl ?_
      refine RL.pick_t rfl rfl ?_
      refine RL.move rfl ?_
      refine RL.fn0 rfl rfl rfl en10 (fun w hw => (f_awake w)) rfl ?_
      rintro _ _ rfl
      refine RL.pick_t rfl rfl ?_
      refine RL.assign rfl ?_
      refine RL.nil ?_
      refine X.ret ?_
      refine ret1 rfl ?_
      show (_ : Value) = _
      rfl
end Go.Proofs.Ytekepfpkihnodaa

/- The walk of CodeHeights. -/
import Derived.Test.YtaklegcphmfghaaA7
set_option linter.unusedVariables false
set_option linter.unusedSimpArgs false
namespace Go.Proofs.Ytaklegcphmfghaa
open Go.RowKit
attribute [local irreducible] X RL W Ctr
theorem w_heights (l : List Ins) (hmax : l.length ≤ 9223372036854775807) (A : Option Addr) (c : Nat) (hcap : l.length ≤ c) (w : World) (hrd : Rd w A (icells l)) (stop : Int) :
    Ctr Try.prog 7 [.slice A l.length c, .int .i64 stop] w [] fun v _ => v = .bool true := by
  have hrd1 := hrd
  obtain ⟨bb, oo, hA0, hc⟩ := hrd
  have hA : 0 < l.length → A = some ⟨bb, oo, none⟩ := fun h => hA0 (by rw [ecells_len Ins.len]; omega)
  refine Ctr.intro0 (n := 64) Try.func7 rfl Try.ntmps7 (Nat.le_of_ble_eq_true rfl) ?_
  refine X.seq ?_
  refine X.region rfl ?_
  refine RL.assign rfl ?_
  refine RL.nil ?_
  refine X.seq ?_
  refine X.seq ?_
  refine X.region rfl ?_
  refine RL.move rfl ?_
  rcases Nat.lt_or_ge 60 l.length with hg | hg
  · refine RL.fn0 rfl rfl rfl en9 (fun w hw => (f_great A l.length c w hmax).toT hg) rfl ?_
    rintro _ _ rfl
    refine RL.nil ?_
    refine X.cond_t rfl ?_
    refine X.seq ?_
    refine X.region rfl ?_
    refine RL.fn0 rfl rfl rfl en10 (fun w hw => (f_awake w)) rfl ?_
    rintro _ _ rfl
    refine RL.assign rfl ?_
    refine RL.nil ?_
    refine X.ret ?_
    refine ret1 rfl ?_
    show (_ : Value) = _
    rfl
  · have hlen : l.length ≤ 1000 := by omega
    have hhl := height_len l 8
    have htl := told_le l
    have hts := told_snd l
    have hml : ((told l).map (·.1)).length = (told l).length := by simp
    refine RL.fn0 rfl rfl rfl en9 (fun w hw => (f_great A l.length c w hmax).toF (by omega)) rfl ?_
    rintro _ _ rfl
    refine RL.nil ?_
    refine X.cond_f rfl ?_
    refine X.skip ?_
    refine X.seq ?_
    refine X.region rfl ?_
    refine RL.move rfl ?_
    refine RL.fn0 rfl rfl rfl en12 (fun w hw => (f_height l hlen A c w (hrd1.st0 hw) 8)) rfl ?_
    rintro _ _ ⟨v1, L1, rfl, hs1, A4, cp4, rfl, hrow4⟩
    refine RL.drop rfl (hs1.append (List.Sublist.refl _)) ?_
    refine RL.move rfl ?_
    refine RL.extract rfl rfl rfl ?_
    refine RL.extract rfl rfl rfl ?_
    refine RL.extract rfl rfl rfl ?_
    refine RL.assign rfl ?_
    refine RL.assign rfl ?_
    refine RL.assign rfl ?_
    refine RL.nil ?_
    refine X.seq ?_
    refine X.region rfl ?_
    refine RL.move rfl ?_
    refine RL.fn0 rfl rfl rfl en14 (fun w hw => (f_heights l hlen A c w (hrd1.st0 hw) 99).mono (fun v L h => (by rw [List.take_of_length_le (by omega)] at h; exact h : ∃ va vb La Lb, v = .tuple #[va, vb] ∧ (Lb ++ La).Sublist L ∧ IRow va ((told l).map (·.1)) La ∧ IRow vb ((told l).map (·.2)) Lb))) rfl ?_
    rintro _ _ ⟨va, vb, La, Lb, rfl, hs2, ⟨A5, cp5, rfl, hra⟩, ⟨A6, cp6, rfl, hrb⟩⟩
    refine RL.drop rfl (hs2.append (List.Sublist.refl _)) ?_
    refine RL.move rfl ?_
    refine RL.extract rfl rfl rfl ?_
    refine RL.extract rfl rfl rfl ?_
    refine RL.assign rfl ?_
    refine RL.assign rfl ?_
    refine RL.nil ?_
    refine X.seq ?_
    refine X.region rfl ?_
    refine RL.move rfl ?_
    refine RL.move rfl ?_
    refine RL.len rfl sl28 rfl ?_
    refine RL.add rfl rfl rfl (by omega) ?_
    refine RL.fn0 rfl rfl rfl en15 (fun w hw => (f_pick stop (((heightP l 8).1.length : Int) + 1) w (by omega) (by omega)).mono (fun v L h => (by obtain ⟨q2, h1, h2⟩ := pick_some (x := stop) (n := (heightP l 8).1.length + 1) (by omega); exact ⟨q2, by rw [h, show (((heightP l 8).1.length : Int) + 1) = (((heightP l 8).1.length + 1 : Nat) : Int) by omega, h1], h2⟩ : ∃ k : Nat, v = .int .i64 (k : Int) ∧ k < (heightP l 8).1.length + 1))) rfl ?_
    rintro _ _ ⟨k, rfl, hk⟩
    refine RL.drop rfl (List.sublist_append_right _ _) ?_
    refine RL.assign rfl ?_
    refine RL.nil ?_
    refine X.seq ?_
    refine X.region rfl ?_
    refine RL.move rfl ?_
    refine RL.move rfl ?_
    refine RL.fn0 rfl rfl rfl en14 (fun w hw => (f_heights l hlen A c w (hrd1.st0 hw) k)) rfl ?_
    rintro _ _ ⟨vc, vd, Lc, Ld, rfl, hs3, ⟨A7, cp7, rfl, hrc⟩, ⟨A8, cp8, rfl, hrd2⟩⟩
    refine RL.drop rfl (hs3.append (List.Sublist.refl _)) ?_
    refine RL.move rfl ?_
    refine RL.extract rfl rfl rfl ?_
    refine RL.extract rfl rfl rfl ?_
    refine RL.assign rfl ?_
    refine RL.assign rfl ?_
    refine RL.nil ?_
    refine X.seq ?_
    refine X.seq ?_
    refine X.region rfl ?_
    refine RL.move rfl ?_
    refine RL.move rfl ?_
    refine RL.fn0 rfl rfl rfl en16 (fun w hw => (f_same ((told l).map (·.2)) (heightP l 8).1 A6 A4 cp6 cp4 w (by rw [List.length_map]; omega) (by omega) (row_rd hrb hw (fun p hp => by simp [hp])) (row_rd hrow4 hw (fun p hp => by simp [hp]))).mono (fun v L h => (by rw [h, decide_eq_true hts] : v = .bool true))) rfl ?_
    rintro _ _ rfl
    refine RL.drop rfl (List.sublist_append_right _ _) ?_
    refine RL.not rfl rfl ?_
    refine RL.move rfl ?_
    refine RL.move rfl ?_
    refine RL.move rfl ?_
    refine RL.move rfl ?_
    have hcp : (heightP l 8).1.length ≤ cp4 := (hrow4.slice (by decide)).elim (fun _ h => by obtain ⟨m2, c2, e1, e2, e3, e4⟩ := h; cases e1; exact e3)
    refine RL.sliceHi (j := ((heightP l 8).1.take k).length) rfl sl28 rfl rfl (by rw [List.length_take]; omega) (by rw [List.length_take]; omega) ?_
    rw [hrow4.hi]
    refine RL.fn0 rfl rfl rfl en16 (fun w hw => (f_same (((told l).take k).map (·.2)) ((heightP l 8).1.take k) A8 A4 cp8 cp4 w (by rw [List.length_map, List.length_take]; omega) (by rw [List.length_take]; omega) (row_rd hrd2 hw (fun p hp => by simp [hp])) (rd_takeI (row_rd hrow4 hw (fun p hp => by simp [hp])))).mono (fun v L h => (by rw [h, decide_eq_true (by rw [List.map_take, hts])] : v = .bool true))) rfl ?_
    rintro _ _ rfl
    refine RL.drop rfl (List.sublist_append_right _ _) ?_
    refine RL.not rfl rfl ?_
    refine RL.pick_f rfl rfl ?_
    refine RL.nil ?_
    refine X.cond_f rfl ?_
    refine X.skip ?_
    refine X.seq ?_
    refine X.seq ?_
    refine X.region rfl ?_
    refine RL.assign rfl ?_
    refine RL.nil ?_
    refine X.block ?_
    refine X.loop (γ := Nat) (fun g ρ L => (g ≤ ((told l).map (·.1)).length) ∧ Has ρ [(8, .slice A5 ((told l).map (·.1)).length cp5), (13, .int .i64 g)] ∧ L = La) (fun g => ((told l).map (·.1)).length - g) (0) ⟨_, (List.Sublist.trans ((List.sublist_append_right _ _).trans (List.sublist_append_left _ _)) (List.sublist_append_right _ _)), Nat.zero_le _, ⟨rfl, rfl, trivial⟩, rfl⟩ ?_
    rintro g _ _ ⟨q1, hρ, rfl⟩
    obtain ⟨base, rfl⟩ := hρ.base
    clear hρ
    refine X.seq ?_
    refine X.seq ?_
    refine X.region rfl ?_
    refine RL.move rfl ?_
    refine RL.move rfl ?_
    refine RL.len rfl sl28 rfl ?_
    refine RL.cmp_s rfl rfl rfl rfl (fun h => ?_) (fun h => ?_)
    · replace h : (_ : Int) < _ := h
      obtain ⟨a, ha⟩ : ∃ a, ((told l).map (·.1))[g]? = some a := ⟨_, List.getElem?_eq_getElem (by omega)⟩
      obtain ⟨b, junk, rfl, rfl⟩ := hra.open (by omega)
      have hta := told_fst ha
      refine RL.nil ?_
      refine X.cond_t rfl ?_
      refine X.skip ?_
      refine X.seq ?_
      refine X.block ?_
      refine X.seq ?_
      refine X.region rfl ?_
      refine RL.move rfl ?_
      refine RL.move rfl ?_
      refine RL.indexAddr rfl sl28 rfl rfl rfl rfl (by omega) ?_
      refine RL.loadO rfl sc3 rfl (ints_app_get ha) ?_
      refine RL.move rfl ?_
      refine RL.cmp_f rfl rfl rfl rfl (by show ¬ ((_ : Int) ≠ _); omega) ?_
      refine RL.nil ?_
      refine X.cond_f rfl ?_
      refine X.skip ?_
      refine X.blk ?_
      refine X.region rfl ?_
      refine RL.move rfl ?_
      refine RL.add rfl rfl rfl (by omega) ?_
      refine RL.assign rfl ?_
      refine RL.nil ?_
      refine X.hyp ⟨rfl, g + 1, by omega, _, (by repeat (first | exact List.Sublist.refl _ | exact List.nil_sublist _ | (rw [List.append_nil]; exact List.Sublist.refl _) | exact List.sublist_append_left _ _ | exact (List.sublist_append_left _ _).trans (List.sublist_append_left _ _) | apply List.Sublist.cons_cons | apply List.Sublist.cons | refine List.Sublist.trans ?_ (List.sublist_append_right _ _))), by omega, ⟨rfl, rfl, trivial⟩, rfl⟩
    · replace h : ¬ ((_ : Int) < _) := h
      refine RL.nil ?_
      refine X.cond_f rfl ?_
      refine X.exit rfl ?_
      refine X.seq ?_
      refine X.region rfl ?_
      refine RL.fn0 rfl rfl rfl en10 (fun w hw => (f_awake w)) rfl ?_
      rintro _ _ rfl
      refine RL.assign rfl ?_
      refine RL.nil ?_
      refine X.ret ?_
      refine ret1 rfl ?_
      show (_ : Value) = _
      rfl
end Go.Proofs.Ytaklegcphmfghaa

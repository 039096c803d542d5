/- A class is judged, twice told; classes found; modules judged, twice told. -/
import Derived.Test.YtnebpklmbefmfaaA5
import Derived.Test.YtnebpklmbefmfaaA6
import Derived.Test.YtnebpklmbefmfaaClassD
set_option linter.unusedVariables false
set_option linter.unusedSimpArgs false
namespace Go.Proofs.Ytnebpklmbefmfaa
open Go.RowKit
attribute [local irreducible] X RL W Ctr
theorem f_cclass (cl : Cl) (cs : List Value) (hsz : ClSz cl) (w : World) (hcl : ClR w cl cs) :
    Ctr Try.prog 46 [.agg cs.toArray] w [] fun v _ => v = .int .i64 (ccheckP cl) := by
 obtain ⟨hid, hfo, Af, cf, Am, cm, ms, rfl, hrf, ⟨bm, om, hAm, hcm⟩, hms⟩ := hcl
 rw [hms.1] at hAm
 have hfs := hsz.faces
 have hmz := hsz.methods
 have hms0 := hms.1
 refine Ctr.intro0 (n := 54) Try.func46 rfl Try.ntmps46 (Nat.le_of_ble_eq_true rfl) ?_
 refine X.seq ?_
 refine X.region rfl ?_
 refine RL.boxA rfl rfl rfl ?_
 intro b1 hb1
 dsimp only at hb1
 refine RL.assign rfl ?_
 refine RL.nil ?_
 refine X.seq ?_
 refine X.seq ?_
 refine X.region rfl ?_
 refine RL.fieldAddr rfl fd69_1 rfl ?_
 refine RL.loadO rfl sc66 rfl (clCells_f hid) ?_
 refine RL.fn0 rfl rfl rfl en52 (fun w hw => (f_fcheck cl.faces hfo hfs Af cf w (hrf.st0 hw))) rfl ?_
 rintro _ _ rfl
 refine RL.assign rfl ?_
 refine RL.nil ?_
 refine X.seq ?_
 refine X.region rfl ?_
 refine RL.move rfl ?_
 refine RL.cmp_s rfl rfl rfl rfl (fun h1 => ?_) (fun h1 => ?_)
 ·replace h1 : (_ : Int) ≠ _ := h1
  refine RL.nil ?_
  refine X.cond_t rfl ?_
  refine X.seq ?_
  refine X.region rfl ?_
  refine RL.move rfl ?_
  refine RL.assign rfl ?_
  refine RL.nil ?_
  refine X.ret ?_
  refine ret1 rfl ?_
  show (_ : Value) = _
  rw [ccheckP_f h1]
 replace h1 : ¬ ((_ : Int) ≠ _) := h1
 refine RL.nil ?_
 refine X.cond_f rfl ?_
 refine X.skip ?_
 refine X.seq ?_
 refine X.block ?_
 refine X.seq ?_
 refine X.region rfl ?_
 refine RL.fieldAddr rfl fd69_2 rfl ?_
 refine RL.loadO rfl sc3 rfl (clCells_s hid) ?_
 refine RL.cmp_s rfl rfl rfl rfl (fun h2 => ?_) (fun h2 => ?_)
 ·replace h2 : (_ : Int) < _ := h2
  refine RL.move rfl ?_
  refine RL.skip rfl ?_
  refine RL.skip rfl ?_
  refine RL.skip rfl ?_
  refine RL.pick_t rfl rfl ?_
  refine RL.assign rfl ?_
  refine RL.nil ?_
  refine X.cond_t rfl ?_
  refine X.seq ?_
  refine X.region rfl ?_
  refine RL.assign rfl ?_
  refine RL.nil ?_
  refine X.ret ?_
  refine ret1 rfl ?_
  show (_ : Value) = _
  rw [ccheckP_s h1 (.inl (by omega))]
 replace h2 : ¬ ((_ : Int) < _) := h2
 refine RL.move rfl ?_
 refine RL.fieldAddr rfl fd69_2 rfl ?_
 refine RL.loadO rfl sc3 rfl (clCells_s hid) ?_
 refine RL.cmp_s rfl rfl rfl rfl (fun h3 => ?_) (fun h3 => ?_)
 ·replace h3 : (_ : Int) > _ := h3
  refine RL.pick_f rfl rfl ?_
  refine RL.assign rfl ?_
  refine RL.nil ?_
  refine X.cond_t rfl ?_
  refine X.seq ?_
  refine X.region rfl ?_
  refine RL.assign rfl ?_
  refine RL.nil ?_
  refine X.ret ?_
  refine ret1 rfl ?_
  show (_ : Value) = _
  rw [ccheckP_s h1 (.inr (by omega))]
 replace h3 : ¬ ((_ : Int) > _) := h3
 have h23 : ¬ (cl.slots < 0 ∨ 8 < cl.slots) := by omega
 refine RL.pick_f rfl rfl ?_
 refine RL.assign rfl ?_
 refine RL.nil ?_
 refine X.cond_f rfl ?_
 refine X.seq ?_
 refine X.region rfl ?_
 refine RL.fieldAddr rfl fd69_3 rfl ?_
 refine RL.loadO rfl sc67 rfl (clCells_m hid) ?_
 refine RL.len rfl sl67 rfl ?_
 refine RL.cmp_s rfl rfl rfl rfl (fun h4 => ?_) (fun h4 => ?_)
 ·replace h4 : (_ : Int) < _ := h4
  refine RL.move rfl ?_
  refine RL.skip rfl ?_
  refine RL.skip rfl ?_
  refine RL.skip rfl ?_
  refine RL.skip rfl ?_
  refine RL.pick_t rfl rfl ?_
  refine RL.assign rfl ?_
  refine RL.nil ?_
  refine X.cond_t rfl ?_
  refine X.seq ?_
  refine X.region rfl ?_
  refine RL.assign rfl ?_
  refine RL.nil ?_
  refine X.ret ?_
  refine ret1 rfl ?_
  show (_ : Value) = _
  rw [ccheckP_n h1 h23 (.inl (by omega))]
 replace h4 : ¬ ((_ : Int) < _) := h4
 refine RL.move rfl ?_
 refine RL.fieldAddr rfl fd69_3 rfl ?_
 refine RL.loadO rfl sc67 rfl (clCells_m hid) ?_
 refine RL.len rfl sl67 rfl ?_
 refine RL.cmp_s rfl rfl rfl rfl (fun h5 => ?_) (fun h5 => ?_)
 ·replace h5 : (_ : Int) > _ := h5
  refine RL.pick_f rfl rfl ?_
  refine RL.assign rfl ?_
  refine RL.nil ?_
  refine X.cond_t rfl ?_
  refine X.seq ?_
  refine X.region rfl ?_
  refine RL.assign rfl ?_
  refine RL.nil ?_
  refine X.ret ?_
  refine ret1 rfl ?_
  show (_ : Value) = _
  rw [ccheckP_n h1 h23 (.inr (by omega))]
 replace h5 : ¬ ((_ : Int) > _) := h5
 have h45 : ¬ (cl.methods.length < 1 ∨ 8 < cl.methods.length) := by omega
 refine RL.pick_f rfl rfl ?_
 refine RL.assign rfl ?_
 refine RL.nil ?_
 refine X.cond_f rfl ?_
 refine X.skip ?_
 refine X.blk ?_
 refine X.seq ?_
 refine X.seq ?_
 refine X.region rfl ?_
 refine RL.fieldAddr rfl fd69_3 rfl ?_
 refine RL.loadO rfl sc67 rfl (clCells_m hid) ?_
 refine RL.len rfl sl67 rfl ?_
 refine RL.move rfl ?_
 refine RL.nil ?_
 refine X.block ?_
 refine X.loop (γ := Nat) (fun g ρ L => (g ≤ cl.methods.length) ∧ (∀ (j : Nat) l, j < g → cl.methods[j]? = some l → (heightP l cl.slots).2.2 = 0) ∧ Has ρ [(1, .pointer (some ⟨b1, 0, none⟩)), (36, .slice Am cl.methods.length cm), (37, .int .i64 cl.methods.length), (38, .int .i64 g)] ∧ L = [(b1, cel 69 (clCells cl.id (.slice Af cl.faces.length cf) cl.slots (.slice Am cl.methods.length cm)))]) (fun g => cl.methods.length - g) (0) ⟨_, (by repeat (first | exact sb0 _ | exact sb1 _ | (rw [List.append_nil]; exact sb0 _) | exact sb2 _ _ | exact sb3 _ _ _ | apply sb4 | apply sb5 | apply sb6)), Nat.zero_le _, fun j l hj => absurd hj (Nat.not_lt_zero j), ⟨rfl, rfl, rfl, rfl, trivial⟩, rfl⟩ ?_
 rintro g _ _ ⟨hg0, hq, hρ, rfl⟩
 obtain ⟨base, rfl⟩ := hρ.base
 clear hρ
 refine X.seq ?_
 refine X.region rfl ?_
 refine RL.cmp_s rfl rfl rfl rfl (fun hg => ?_) (fun hg => ?_)
 ·replace hg : (_ : Int) < _ := hg
  obtain ⟨l, hl⟩ : ∃ l, cl.methods[g]? = some l := ⟨_, List.getElem?_eq_getElem (by omega)⟩
  obtain ⟨Al, c2, hml, hrl⟩ := hms.2 g l hl
  have hll := hsz.rows l (List.mem_of_getElem? hl)
  refine RL.nil ?_
  refine X.seq ?_
  refine X.cond_t rfl ?_
  refine X.skip ?_
  refine X.seq ?_
  refine X.block ?_
  refine X.seq ?_
  refine X.region rfl ?_
  refine RL.indexAddr rfl sl67 rfl rfl (hAm (by omega)) rfl (by omega) ?_
  refine RL.loadI rfl sc78 rfl (by rw [Nat.mul_one]; exact hcm g _ hml) (by simp) ?_
  refine RL.assign rfl ?_
  refine RL.nil ?_
  refine X.seq ?_
  refine X.region rfl ?_
  refine RL.move rfl ?_
  refine RL.fieldAddr rfl fd69_2 rfl ?_
  refine RL.loadO rfl sc3 rfl (clCells_s hid) ?_
  refine RL.fn0 rfl rfl rfl en53 (fun w hw => (f_check l hll Al c2 w (hrl.st0 hw) cl.slots).mono (fun v L h => (by rw [check_snd] at h; obtain ⟨a, b, h, _, _⟩ := h; exact ⟨a, b, h⟩ : ∃ a b, v = .tuple #[.int .i64 a, .int .i64 b, .int .i64 (heightP l cl.slots).2.2]))) rfl ?_
  rintro _ _ ⟨a, b, rfl⟩
  refine RL.drop rfl (List.sublist_append_right _ _) ?_
  refine RL.move rfl ?_
  refine RL.extract rfl rfl rfl ?_
  refine RL.extract rfl rfl rfl ?_
  refine RL.extract rfl rfl rfl ?_
  refine RL.assign rfl ?_
  refine RL.assign rfl ?_
  refine RL.assign rfl ?_
  refine RL.nil ?_
  refine X.seq ?_
  refine X.region rfl ?_
  refine RL.move rfl ?_
  refine RL.cmp_s rfl rfl rfl rfl (fun he => ?_) (fun he => ?_)
  ·replace he : (_ : Int) ≠ _ := he
   refine RL.nil ?_
   refine X.cond_t rfl ?_
   refine X.seq ?_
   refine X.region rfl ?_
   refine RL.move rfl ?_
   refine RL.assign rfl ?_
   refine RL.nil ?_
   refine X.ret ?_
   refine ret1 rfl ?_
   show (_ : Value) = _
   rw [ccheckP_m h1 h23 h45, msP_hit hq hl he]
  replace he : ¬ ((_ : Int) ≠ _) := he
  refine RL.nil ?_
  refine X.cond_f rfl ?_
  refine X.skip ?_
  refine X.blk ?_
  refine X.region rfl ?_
  refine RL.add rfl rfl rfl (by omega) ?_
  refine RL.move rfl ?_
  refine RL.nil ?_
  refine X.hyp ⟨rfl, g + 1, by omega, _, (by repeat (first | exact sb0 _ | exact sb1 _ | (rw [List.append_nil]; exact sb0 _) | exact sb2 _ _ | exact sb3 _ _ _ | apply sb4 | apply sb5 | apply sb6)), by omega, fun j l2 hj hl2 => by
      rcases Nat.lt_succ_iff_lt_or_eq.1 hj with h3 | rfl
      · exact hq j l2 h3 hl2
      · rw [hl] at hl2; obtain rfl := Option.some.inj hl2; exact Decidable.not_not.1 he, ⟨rfl, rfl, rfl, rfl, trivial⟩, rfl⟩
 replace hg : ¬ ((_ : Int) < _) := hg
 refine RL.nil ?_
 refine X.seq ?_
 refine X.cond_f rfl ?_
 refine X.exit rfl ?_
 refine X.seq ?_
 refine X.region rfl ?_
 refine RL.assign rfl ?_
 refine RL.nil ?_
 refine X.ret ?_
 refine ret1 rfl ?_
 show (_ : Value) = _
 rw [ccheckP_m h1 h23 h45, msP_ok (fun j l hl => hq j l (by have := (List.getElem?_eq_some_iff.1 hl).1; omega) hl)]
theorem f_rcclass (cl : Cl) (cs : List Value) (hsz : ClSz cl) (w : World) (hcl : ClR w cl cs) :
    Ctr Try.prog 44 [.agg cs.toArray] w [] fun v _ => v = .int .i64 (ccheckP cl) := by
 obtain ⟨hid, hfo, Af, cf, Am, cm, ms, rfl, hrf, ⟨bm, om, hAm, hcm⟩, hms⟩ := hcl
 rw [hms.1] at hAm
 have hfs := hsz.faces
 have hmz := hsz.methods
 have hms0 := hms.1
 refine Ctr.intro0 (n := 54) Try.func44 rfl Try.ntmps44 (Nat.le_of_ble_eq_true rfl) ?_
 refine X.seq ?_
 refine X.region rfl ?_
 refine RL.boxA rfl rfl rfl ?_
 intro b1 hb1
 dsimp only at hb1
 refine RL.assign rfl ?_
 refine RL.nil ?_
 refine X.seq ?_
 refine X.seq ?_
 refine X.region rfl ?_
 refine RL.fieldAddr rfl fd69_1 rfl ?_
 refine RL.loadO rfl sc66 rfl (clCells_f hid) ?_
 refine RL.fn0 rfl rfl rfl en50 (fun w hw => (f_frcheck cl.faces hfo hfs Af cf w (hrf.st0 hw))) rfl ?_
 rintro _ _ rfl
 refine RL.assign rfl ?_
 refine RL.nil ?_
 refine X.seq ?_
 refine X.region rfl ?_
 refine RL.move rfl ?_
 refine RL.cmp_s rfl rfl rfl rfl (fun h1 => ?_) (fun h1 => ?_)
 ·replace h1 : (_ : Int) ≠ _ := h1
  refine RL.nil ?_
  refine X.cond_t rfl ?_
  refine X.seq ?_
  refine X.region rfl ?_
  refine RL.move rfl ?_
  refine RL.assign rfl ?_
  refine RL.nil ?_
  refine X.ret ?_
  refine ret1 rfl ?_
  show (_ : Value) = _
  rw [ccheckP_f h1]
 replace h1 : ¬ ((_ : Int) ≠ _) := h1
 refine RL.nil ?_
 refine X.cond_f rfl ?_
 refine X.skip ?_
 refine X.seq ?_
 refine X.seq ?_
 refine X.region rfl ?_
 refine RL.fieldAddr rfl fd69_2 rfl ?_
 refine RL.loadO rfl sc3 rfl (clCells_s hid) ?_
 refine RL.cmp_s rfl rfl rfl rfl (fun h2 => ?_) (fun h2 => ?_)
 ·replace h2 : (_ : Int) < _ := h2
  refine RL.move rfl ?_
  refine RL.skip rfl ?_
  refine RL.skip rfl ?_
  refine RL.skip rfl ?_
  refine RL.pick_t rfl rfl ?_
  refine RL.nil ?_
  refine X.cond_t rfl ?_
  refine X.seq ?_
  refine X.region rfl ?_
  refine RL.assign rfl ?_
  refine RL.nil ?_
  refine X.ret ?_
  refine ret1 rfl ?_
  show (_ : Value) = _
  rw [ccheckP_s h1 (.inl (by omega))]
 replace h2 : ¬ ((_ : Int) < _) := h2
 refine RL.move rfl ?_
 refine RL.fieldAddr rfl fd69_2 rfl ?_
 refine RL.loadO rfl sc3 rfl (clCells_s hid) ?_
 refine RL.cmp_s rfl rfl rfl rfl (fun h3 => ?_) (fun h3 => ?_)
 ·replace h3 : (_ : Int) > _ := h3
  refine RL.pick_f rfl rfl ?_
  refine RL.nil ?_
  refine X.cond_t rfl ?_
  refine X.seq ?_
  refine X.region rfl ?_
  refine RL.assign rfl ?_
  refine RL.nil ?_
  refine X.ret ?_
  refine ret1 rfl ?_
  show (_ : Value) = _
  rw [ccheckP_s h1 (.inr (by omega))]
 replace h3 : ¬ ((_ : Int) > _) := h3
 have h23 : ¬ (cl.slots < 0 ∨ 8 < cl.slots) := by omega
 refine RL.pick_f rfl rfl ?_
 refine RL.nil ?_
 refine X.cond_f rfl ?_
 refine X.skip ?_
 refine X.seq ?_
 refine X.seq ?_
 refine X.region rfl ?_
 refine RL.fieldAddr rfl fd69_3 rfl ?_
 refine RL.loadO rfl sc67 rfl (clCells_m hid) ?_
 refine RL.len rfl sl67 rfl ?_
 refine RL.cmp_s rfl rfl rfl rfl (fun h4 => ?_) (fun h4 => ?_)
 ·replace h4 : (_ : Int) = _ := h4
  refine RL.move rfl ?_
  refine RL.skip rfl ?_
  refine RL.skip rfl ?_
  refine RL.skip rfl ?_
  refine RL.skip rfl ?_
  refine RL.pick_t rfl rfl ?_
  refine RL.nil ?_
  refine X.cond_t rfl ?_
  refine X.seq ?_
  refine X.region rfl ?_
  refine RL.assign rfl ?_
  refine RL.nil ?_
  refine X.ret ?_
  refine ret1 rfl ?_
  show (_ : Value) = _
  rw [ccheckP_n h1 h23 (.inl (by omega))]
 replace h4 : ¬ ((_ : Int) = _) := h4
 refine RL.move rfl ?_
 refine RL.fieldAddr rfl fd69_3 rfl ?_
 refine RL.loadO rfl sc67 rfl (clCells_m hid) ?_
 refine RL.len rfl sl67 rfl ?_
 refine RL.cmp_s rfl rfl rfl rfl (fun h5 => ?_) (fun h5 => ?_)
 ·replace h5 : (_ : Int) > _ := h5
  refine RL.pick_f rfl rfl ?_
  refine RL.nil ?_
  refine X.cond_t rfl ?_
  refine X.seq ?_
  refine X.region rfl ?_
  refine RL.assign rfl ?_
  refine RL.nil ?_
  refine X.ret ?_
  refine ret1 rfl ?_
  show (_ : Value) = _
  rw [ccheckP_n h1 h23 (.inr (by omega))]
 replace h5 : ¬ ((_ : Int) > _) := h5
 have h45 : ¬ (cl.methods.length < 1 ∨ 8 < cl.methods.length) := by omega
 refine RL.pick_f rfl rfl ?_
 refine RL.nil ?_
 refine X.cond_f rfl ?_
 refine X.skip ?_
 refine X.seq ?_
 refine X.seq ?_
 refine X.region rfl ?_
 refine RL.assign rfl ?_
 refine RL.nil ?_
 refine X.block ?_
 refine X.loop (γ := Nat) (fun g ρ L => (g ≤ cl.methods.length) ∧ (∀ (j : Nat) l, j < g → cl.methods[j]? = some l → (heightP l cl.slots).2.2 = 0) ∧ Has ρ [(1, .pointer (some ⟨b1, 0, none⟩)), (4, .int .i64 g)] ∧ L = [(b1, cel 69 (clCells cl.id (.slice Af cl.faces.length cf) cl.slots (.slice Am cl.methods.length cm)))]) (fun g => cl.methods.length - g) (0) ⟨_, (by repeat (first | exact sb0 _ | exact sb1 _ | (rw [List.append_nil]; exact sb0 _) | exact sb2 _ _ | exact sb3 _ _ _ | apply sb4 | apply sb5 | apply sb6)), Nat.zero_le _, fun j l hj => absurd hj (Nat.not_lt_zero j), ⟨rfl, rfl, trivial⟩, rfl⟩ ?_
 rintro g _ _ ⟨hg0, hq, hρ, rfl⟩
 obtain ⟨base, rfl⟩ := hρ.base
 clear hρ
 refine X.seq ?_
 refine X.seq ?_
 refine X.region rfl ?_
 refine RL.move rfl ?_
 refine RL.fieldAddr rfl fd69_3 rfl ?_
 refine RL.loadO rfl sc67 rfl (clCells_m hid) ?_
 refine RL.len rfl sl67 rfl ?_
 refine RL.cmp_s rfl rfl rfl rfl (fun hg => ?_) (fun hg => ?_)
 ·replace hg : (_ : Int) < _ := hg
  obtain ⟨l, hl⟩ : ∃ l, cl.methods[g]? = some l := ⟨_, List.getElem?_eq_getElem (by omega)⟩
  obtain ⟨Al, c2, hml, hrl⟩ := hms.2 g l hl
  have hll := hsz.rows l (List.mem_of_getElem? hl)
  refine RL.nil ?_
  refine X.cond_t rfl ?_
  refine X.skip ?_
  refine X.seq ?_
  refine X.block ?_
  refine X.seq ?_
  refine X.set [.val (.pointer (some ⟨b1, 0 + 18, none⟩)), .val (.slice Am cl.methods.length cm), .val (.int .i64 g), .val (.pointer (some ⟨bm, om + g * 1, none⟩)), .val (.slice Al l.length c2), .val (.pointer (some ⟨b1, 0 + 17, none⟩)), .val (.int .i64 cl.slots), .any, .any, .any, .val (.int .i64 (heightP l cl.slots).2.1), .val (.int .i64 (heightP l cl.slots).2.2), .any, .val (.int .i64 (heightP l cl.slots).2.1), .val (.int .i64 (heightP l cl.slots).2.2)] [[], [0], [], [0, 1, 2], [0, 1, 2, 3], [], [5], [0, 1, 2, 3, 4, 5, 6], [0, 1, 2, 3, 4, 5, 6, 7], [0, 1, 2, 3, 4, 5, 6, 7, 8], [0, 1, 2, 3, 4, 5, 6, 7, 8], [0, 1, 2, 3, 4, 5, 6, 7, 8], [0, 1, 2, 3, 4, 5, 6, 7, 8, 9], [0, 1, 2, 3, 4, 5, 6, 7, 8, 9, 10, 12], [0, 1, 2, 3, 4, 5, 6, 7, 8, 9, 10, 11, 12, 13]] (fun D ρ L => (D 7 = false ∧ D 8 = false ∧ D 9 = false ∧ D 12 = false ∧ True ∧ Has ρ [] ∧ L.Perm ([(b1, cel 69 (clCells cl.id (.slice Af cl.faces.length cf) cl.slots (.slice Am cl.methods.length cm)))])) ∨ (D 7 = true ∧ D 8 = false ∧ D 9 = false ∧ D 12 = false ∧ True ∧ ∃ A47 : Option Addr, ∃ cp47 : Nat, Has ρ [(47, .tuple #[.slice A47 (heightP l cl.slots).1.length cp47, .int .i64 (heightP l cl.slots).2.1, .int .i64 (heightP l cl.slots).2.2])] ∧ L.Perm ([(b1, cel 69 (clCells cl.id (.slice Af cl.faces.length cf) cl.slots (.slice Am cl.methods.length cm)))])) ∨ (D 7 = true ∧ D 8 = true ∧ D 9 = false ∧ D 12 = false ∧ True ∧ ∃ A47 : Option Addr, ∃ cp47 : Nat, Has ρ [(39, .tuple #[.slice A47 (heightP l cl.slots).1.length cp47, .int .i64 (heightP l cl.slots).2.1, .int .i64 (heightP l cl.slots).2.2]), (47, .tuple #[.slice A47 (heightP l cl.slots).1.length cp47, .int .i64 (heightP l cl.slots).2.1, .int .i64 (heightP l cl.slots).2.2])] ∧ L.Perm ([(b1, cel 69 (clCells cl.id (.slice Af cl.faces.length cf) cl.slots (.slice Am cl.methods.length cm)))])) ∨ (D 7 = true ∧ D 8 = true ∧ D 9 = true ∧ D 12 = false ∧ True ∧ ∃ A47 : Option Addr, ∃ cp47 : Nat, Has ρ [(39, .tuple #[.slice A47 (heightP l cl.slots).1.length cp47, .int .i64 (heightP l cl.slots).2.1, .int .i64 (heightP l cl.slots).2.2]), (47, .tuple #[.slice A47 (heightP l cl.slots).1.length cp47, .int .i64 (heightP l cl.slots).2.1, .int .i64 (heightP l cl.slots).2.2]), (48, .slice A47 (heightP l cl.slots).1.length cp47)] ∧ L.Perm ([(b1, cel 69 (clCells cl.id (.slice Af cl.faces.length cf) cl.slots (.slice Am cl.methods.length cm)))])) ∨ (D 7 = true ∧ D 8 = true ∧ D 9 = true ∧ D 12 = true ∧ True ∧ ∃ A47 : Option Addr, ∃ cp47 : Nat, Has ρ [(5, .slice A47 (heightP l cl.slots).1.length cp47), (39, .tuple #[.slice A47 (heightP l cl.slots).1.length cp47, .int .i64 (heightP l cl.slots).2.1, .int .i64 (heightP l cl.slots).2.2]), (47, .tuple #[.slice A47 (heightP l cl.slots).1.length cp47, .int .i64 (heightP l cl.slots).2.1, .int .i64 (heightP l cl.slots).2.2]), (48, .slice A47 (heightP l cl.slots).1.length cp47)] ∧ L.Perm ([(b1, cel 69 (clCells cl.id (.slice Af cl.faces.length cf) cl.slots (.slice Am cl.methods.length cm)))]))) rfl (by kernel_rfl) (by kernel_rfl) (by kernel_rfl) (by kernel_rfl) (fun D hD => .inl ⟨hD 7, hD 8, hD 9, hD 12, trivial, trivial, (List.Perm.refl _)⟩) ⟨?_, ?_, ?_, ?_, ?_, ?_, ?_, ?_, ?_, ?_, ?_, ?_, ?_, ?_, ?_, trivial⟩ ?_
  ·intro ρ L D hS
   rcases hS.sp with ⟨e7, e8, e9, e12, -, hρ, hL⟩ | ⟨e7, e8, e9, e12, -, A47, cp47, hρ, hL⟩ | ⟨e7, e8, e9, e12, -, A47, cp47, hρ, hL⟩ | ⟨e7, e8, e9, e12, -, A47, cp47, hρ, hL⟩ | ⟨e7, e8, e9, e12, -, A47, cp47, hρ, hL⟩
   ·have u1 : ρ 1 = .pointer (some ⟨b1, 0, none⟩) := hS.fix 1 (by decide)
    clear hS hρ
    obtain ⟨base, rfl⟩ := Has.base (ρ := ρ) (l := [(1, .pointer (some ⟨b1, 0, none⟩))]) ⟨u1, trivial⟩
    clear u1
    refine RL.perm rfl hL.symm ?_
    clear hL
    refine RL.fieldAddr rfl fd69_3 rfl ?_
    refine RL.nil ?_
    exact ⟨rfl, ⟨_, rfl, rfl⟩, .inl ⟨e7, e8, e9, e12, trivial, trivial, List.Perm.refl _⟩⟩
   ·exact hS.hi 7 rfl (by kernel_rfl) e7
   ·exact hS.hi 7 rfl (by kernel_rfl) e7
   ·exact hS.hi 7 rfl (by kernel_rfl) e7
   exact hS.hi 7 rfl (by kernel_rfl) e7
  ·intro ρ L D hS
   rcases hS.sp with ⟨e7, e8, e9, e12, -, hρ, hL⟩ | ⟨e7, e8, e9, e12, -, A47, cp47, hρ, hL⟩ | ⟨e7, e8, e9, e12, -, A47, cp47, hρ, hL⟩ | ⟨e7, e8, e9, e12, -, A47, cp47, hρ, hL⟩ | ⟨e7, e8, e9, e12, -, A47, cp47, hρ, hL⟩
   ·have u40 : ρ 40 = .pointer (some ⟨b1, 0 + 18, none⟩) := hS.dep ⟨0, Ground.data⟩ (by simp) rfl _ _ rfl rfl
    clear hS hρ
    obtain ⟨base, rfl⟩ := Has.base (ρ := ρ) (l := [(40, .pointer (some ⟨b1, 0 + 18, none⟩))]) ⟨u40, trivial⟩
    clear u40
    refine RL.perm rfl hL.symm ?_
    clear hL
    refine RL.loadO rfl sc67 rfl (clCells_m hid) ?_
    refine RL.nil ?_
    exact ⟨rfl, ⟨_, rfl, rfl⟩, .inl ⟨e7, e8, e9, e12, trivial, trivial, List.Perm.refl _⟩⟩
   ·exact hS.hi 7 rfl (by kernel_rfl) e7
   ·exact hS.hi 7 rfl (by kernel_rfl) e7
   ·exact hS.hi 7 rfl (by kernel_rfl) e7
   exact hS.hi 7 rfl (by kernel_rfl) e7
  ·intro ρ L D hS
   rcases hS.sp with ⟨e7, e8, e9, e12, -, hρ, hL⟩ | ⟨e7, e8, e9, e12, -, A47, cp47, hρ, hL⟩ | ⟨e7, e8, e9, e12, -, A47, cp47, hρ, hL⟩ | ⟨e7, e8, e9, e12, -, A47, cp47, hρ, hL⟩ | ⟨e7, e8, e9, e12, -, A47, cp47, hρ, hL⟩
   ·have u4 : ρ 4 = .int .i64 g := hS.fix 4 (by decide)
    clear hS hρ
    obtain ⟨base, rfl⟩ := Has.base (ρ := ρ) (l := [(4, .int .i64 g)]) ⟨u4, trivial⟩
    clear u4
    refine RL.perm rfl hL.symm ?_
    clear hL
    refine RL.move rfl ?_
    refine RL.nil ?_
    exact ⟨rfl, ⟨_, rfl, rfl⟩, .inl ⟨e7, e8, e9, e12, trivial, trivial, List.Perm.refl _⟩⟩
   ·exact hS.hi 7 rfl (by kernel_rfl) e7
   ·exact hS.hi 7 rfl (by kernel_rfl) e7
   ·exact hS.hi 7 rfl (by kernel_rfl) e7
   exact hS.hi 7 rfl (by kernel_rfl) e7
  ·intro ρ L D hS
   rcases hS.sp with ⟨e7, e8, e9, e12, -, hρ, hL⟩ | ⟨e7, e8, e9, e12, -, A47, cp47, hρ, hL⟩ | ⟨e7, e8, e9, e12, -, A47, cp47, hρ, hL⟩ | ⟨e7, e8, e9, e12, -, A47, cp47, hρ, hL⟩ | ⟨e7, e8, e9, e12, -, A47, cp47, hρ, hL⟩
   ·have u41 : ρ 41 = .slice Am cl.methods.length cm := hS.dep ⟨1, Ground.data⟩ (by simp) rfl _ _ rfl rfl
    have u42 : ρ 42 = .int .i64 g := hS.dep ⟨2, Ground.data⟩ (by simp) rfl _ _ rfl rfl
    clear hS hρ
    obtain ⟨base, rfl⟩ := Has.base (ρ := ρ) (l := [(41, .slice Am cl.methods.length cm), (42, .int .i64 g)]) ⟨u41, u42, trivial⟩
    clear u41 u42
    refine RL.perm rfl hL.symm ?_
    clear hL
    refine RL.indexAddr rfl sl67 rfl rfl (hAm (by omega)) rfl (by omega) ?_
    refine RL.nil ?_
    exact ⟨rfl, ⟨_, rfl, rfl⟩, .inl ⟨e7, e8, e9, e12, trivial, trivial, List.Perm.refl _⟩⟩
   ·exact hS.hi 7 rfl (by kernel_rfl) e7
   ·exact hS.hi 7 rfl (by kernel_rfl) e7
   ·exact hS.hi 7 rfl (by kernel_rfl) e7
   exact hS.hi 7 rfl (by kernel_rfl) e7
  ·intro ρ L D hS
   rcases hS.sp with ⟨e7, e8, e9, e12, -, hρ, hL⟩ | ⟨e7, e8, e9, e12, -, A47, cp47, hρ, hL⟩ | ⟨e7, e8, e9, e12, -, A47, cp47, hρ, hL⟩ | ⟨e7, e8, e9, e12, -, A47, cp47, hρ, hL⟩ | ⟨e7, e8, e9, e12, -, A47, cp47, hρ, hL⟩
   ·have u43 : ρ 43 = .pointer (some ⟨bm, om + g * 1, none⟩) := hS.dep ⟨3, Ground.data⟩ (by simp) rfl _ _ rfl rfl
    clear hS hρ
    obtain ⟨base, rfl⟩ := Has.base (ρ := ρ) (l := [(43, .pointer (some ⟨bm, om + g * 1, none⟩))]) ⟨u43, trivial⟩
    clear u43
    refine RL.perm rfl hL.symm ?_
    clear hL
    refine RL.loadI rfl sc78 rfl (by rw [Nat.mul_one]; exact hcm g _ hml) (by simp) ?_
    refine RL.nil ?_
    exact ⟨rfl, ⟨_, rfl, rfl⟩, .inl ⟨e7, e8, e9, e12, trivial, trivial, List.Perm.refl _⟩⟩
   ·exact hS.hi 7 rfl (by kernel_rfl) e7
   ·exact hS.hi 7 rfl (by kernel_rfl) e7
   ·exact hS.hi 7 rfl (by kernel_rfl) e7
   exact hS.hi 7 rfl (by kernel_rfl) e7
  ·intro ρ L D hS
   rcases hS.sp with ⟨e7, e8, e9, e12, -, hρ, hL⟩ | ⟨e7, e8, e9, e12, -, A47, cp47, hρ, hL⟩ | ⟨e7, e8, e9, e12, -, A47, cp47, hρ, hL⟩ | ⟨e7, e8, e9, e12, -, A47, cp47, hρ, hL⟩ | ⟨e7, e8, e9, e12, -, A47, cp47, hρ, hL⟩
   ·have u1 : ρ 1 = .pointer (some ⟨b1, 0, none⟩) := hS.fix 1 (by decide)
    clear hS hρ
    obtain ⟨base, rfl⟩ := Has.base (ρ := ρ) (l := [(1, .pointer (some ⟨b1, 0, none⟩))]) ⟨u1, trivial⟩
    clear u1
    refine RL.perm rfl hL.symm ?_
    clear hL
    refine RL.fieldAddr rfl fd69_2 rfl ?_
    refine RL.nil ?_
    exact ⟨rfl, ⟨_, rfl, rfl⟩, .inl ⟨e7, e8, e9, e12, trivial, trivial, List.Perm.refl _⟩⟩
   ·exact hS.hi 7 rfl (by kernel_rfl) e7
   ·exact hS.hi 7 rfl (by kernel_rfl) e7
   ·exact hS.hi 7 rfl (by kernel_rfl) e7
   exact hS.hi 7 rfl (by kernel_rfl) e7
  ·intro ρ L D hS
   rcases hS.sp with ⟨e7, e8, e9, e12, -, hρ, hL⟩ | ⟨e7, e8, e9, e12, -, A47, cp47, hρ, hL⟩ | ⟨e7, e8, e9, e12, -, A47, cp47, hρ, hL⟩ | ⟨e7, e8, e9, e12, -, A47, cp47, hρ, hL⟩ | ⟨e7, e8, e9, e12, -, A47, cp47, hρ, hL⟩
   ·have u45 : ρ 45 = .pointer (some ⟨b1, 0 + 17, none⟩) := hS.dep ⟨5, Ground.data⟩ (by simp) rfl _ _ rfl rfl
    clear hS hρ
    obtain ⟨base, rfl⟩ := Has.base (ρ := ρ) (l := [(45, .pointer (some ⟨b1, 0 + 17, none⟩))]) ⟨u45, trivial⟩
    clear u45
    refine RL.perm rfl hL.symm ?_
    clear hL
    refine RL.loadO rfl sc3 rfl (clCells_s hid) ?_
    refine RL.nil ?_
    exact ⟨rfl, ⟨_, rfl, rfl⟩, .inl ⟨e7, e8, e9, e12, trivial, trivial, List.Perm.refl _⟩⟩
   ·exact hS.hi 7 rfl (by kernel_rfl) e7
   ·exact hS.hi 7 rfl (by kernel_rfl) e7
   ·exact hS.hi 7 rfl (by kernel_rfl) e7
   exact hS.hi 7 rfl (by kernel_rfl) e7
  ·intro ρ L D hS
   rcases hS.sp with ⟨e7, e8, e9, e12, -, hρ, hL⟩ | ⟨e7, e8, e9, e12, -, A47, cp47, hρ, hL⟩ | ⟨e7, e8, e9, e12, -, A47, cp47, hρ, hL⟩ | ⟨e7, e8, e9, e12, -, A47, cp47, hρ, hL⟩ | ⟨e7, e8, e9, e12, -, A47, cp47, hρ, hL⟩
   ·have u44 : ρ 44 = .slice Al l.length c2 := hS.dep ⟨4, Ground.data⟩ (by simp) rfl _ _ rfl rfl
    have u46 : ρ 46 = .int .i64 cl.slots := hS.dep ⟨6, Ground.data⟩ (by simp) rfl _ _ rfl rfl
    clear hS hρ
    obtain ⟨base, rfl⟩ := Has.base (ρ := ρ) (l := [(44, .slice Al l.length c2), (46, .int .i64 cl.slots)]) ⟨u44, u46, trivial⟩
    clear u44 u46
    refine RL.perm rfl hL.symm ?_
    clear hL
    refine RL.fn0 rfl rfl rfl en51 (fun w hw => (f_height l hll Al c2 w (hrl.st0 hw) cl.slots)) rfl ?_
    rintro _ _ ⟨v1, L1, rfl, hs1, A4, cp4, rfl, hrow4⟩
    refine RL.drop rfl (List.sublist_append_right _ _) ?_
    refine RL.nil ?_
    exact ⟨rfl, ⟨_, rfl, trivial⟩, .inr (.inl ⟨rfl, e8, e9, e12, trivial, A4, cp4, ⟨rfl, trivial⟩, (pmm fun _ _ z => by simp only [pm1, pm2, pm3, pm4, pm5, pm6, List.cons_append, List.nil_append] <;> omega)⟩)⟩
   ·exact hS.me e7
   ·exact hS.hi 8 rfl (by kernel_rfl) e8
   ·exact hS.hi 8 rfl (by kernel_rfl) e8
   exact hS.hi 8 rfl (by kernel_rfl) e8
  ·intro ρ L D hS
   rcases hS.sp with ⟨e7, e8, e9, e12, -, hρ, hL⟩ | ⟨e7, e8, e9, e12, -, A47, cp47, hρ, hL⟩ | ⟨e7, e8, e9, e12, -, A47, cp47, hρ, hL⟩ | ⟨e7, e8, e9, e12, -, A47, cp47, hρ, hL⟩ | ⟨e7, e8, e9, e12, -, A47, cp47, hρ, hL⟩
   ·exact hS.lo 7 (by kernel_rfl) e7
   ·have u47 : ρ 47 = .tuple #[.slice A47 (heightP l cl.slots).1.length cp47, .int .i64 (heightP l cl.slots).2.1, .int .i64 (heightP l cl.slots).2.2] := hρ.1
    clear hS hρ
    obtain ⟨base, rfl⟩ := Has.base (ρ := ρ) (l := [(47, .tuple #[.slice A47 (heightP l cl.slots).1.length cp47, .int .i64 (heightP l cl.slots).2.1, .int .i64 (heightP l cl.slots).2.2])]) ⟨u47, trivial⟩
    clear u47
    refine RL.perm rfl hL.symm ?_
    clear hL
    refine RL.move rfl ?_
    refine RL.nil ?_
    exact ⟨rfl, ⟨_, rfl, trivial⟩, .inr (.inr (.inl ⟨e7, rfl, e9, e12, trivial, A47, cp47, ⟨rfl, rfl, trivial⟩, (pmm fun _ _ z => by simp only [pm1, pm2, pm3, pm4, pm5, pm6, List.cons_append, List.nil_append] <;> omega)⟩))⟩
   ·exact hS.me e8
   ·exact hS.hi 9 rfl (by kernel_rfl) e9
   exact hS.hi 9 rfl (by kernel_rfl) e9
  ·intro ρ L D hS
   rcases hS.sp with ⟨e7, e8, e9, e12, -, hρ, hL⟩ | ⟨e7, e8, e9, e12, -, A47, cp47, hρ, hL⟩ | ⟨e7, e8, e9, e12, -, A47, cp47, hρ, hL⟩ | ⟨e7, e8, e9, e12, -, A47, cp47, hρ, hL⟩ | ⟨e7, e8, e9, e12, -, A47, cp47, hρ, hL⟩
   ·exact hS.lo 7 (by kernel_rfl) e7
   ·exact hS.lo 8 (by kernel_rfl) e8
   ·have u39 : ρ 39 = .tuple #[.slice A47 (heightP l cl.slots).1.length cp47, .int .i64 (heightP l cl.slots).2.1, .int .i64 (heightP l cl.slots).2.2] := hρ.1
    have u47 : ρ 47 = .tuple #[.slice A47 (heightP l cl.slots).1.length cp47, .int .i64 (heightP l cl.slots).2.1, .int .i64 (heightP l cl.slots).2.2] := hρ.2.1
    clear hS hρ
    obtain ⟨base, rfl⟩ := Has.base (ρ := ρ) (l := [(39, .tuple #[.slice A47 (heightP l cl.slots).1.length cp47, .int .i64 (heightP l cl.slots).2.1, .int .i64 (heightP l cl.slots).2.2]), (47, .tuple #[.slice A47 (heightP l cl.slots).1.length cp47, .int .i64 (heightP l cl.slots).2.1, .int .i64 (heightP l cl.slots).2.2])]) ⟨u39, u47, trivial⟩
    clear u39 u47
    refine RL.perm rfl hL.symm ?_
    clear hL
    refine RL.extract rfl rfl rfl ?_
    refine RL.nil ?_
    exact ⟨rfl, ⟨_, rfl, trivial⟩, .inr (.inr (.inr (.inl ⟨e7, e8, rfl, e12, trivial, A47, cp47, ⟨rfl, rfl, rfl, trivial⟩, (pmm fun _ _ z => by simp only [pm1, pm2, pm3, pm4, pm5, pm6, List.cons_append, List.nil_append] <;> omega)⟩)))⟩
   ·exact hS.me e9
   exact hS.hi 12 rfl (by kernel_rfl) e12
  ·intro ρ L D hS
   rcases hS.sp with ⟨e7, e8, e9, e12, -, hρ, hL⟩ | ⟨e7, e8, e9, e12, -, A47, cp47, hρ, hL⟩ | ⟨e7, e8, e9, e12, -, A47, cp47, hρ, hL⟩ | ⟨e7, e8, e9, e12, -, A47, cp47, hρ, hL⟩ | ⟨e7, e8, e9, e12, -, A47, cp47, hρ, hL⟩
   ·exact hS.lo 7 (by kernel_rfl) e7
   ·exact hS.lo 8 (by kernel_rfl) e8
   ·have u39 : ρ 39 = .tuple #[.slice A47 (heightP l cl.slots).1.length cp47, .int .i64 (heightP l cl.slots).2.1, .int .i64 (heightP l cl.slots).2.2] := hρ.1
    have u47 : ρ 47 = .tuple #[.slice A47 (heightP l cl.slots).1.length cp47, .int .i64 (heightP l cl.slots).2.1, .int .i64 (heightP l cl.slots).2.2] := hρ.2.1
    clear hS hρ
    obtain ⟨base, rfl⟩ := Has.base (ρ := ρ) (l := [(39, .tuple #[.slice A47 (heightP l cl.slots).1.length cp47, .int .i64 (heightP l cl.slots).2.1, .int .i64 (heightP l cl.slots).2.2]), (47, .tuple #[.slice A47 (heightP l cl.slots).1.length cp47, .int .i64 (heightP l cl.slots).2.1, .int .i64 (heightP l cl.slots).2.2])]) ⟨u39, u47, trivial⟩
    clear u39 u47
    refine RL.perm rfl hL.symm ?_
    clear hL
    refine RL.extract rfl rfl rfl ?_
    refine RL.nil ?_
    exact ⟨rfl, ⟨_, rfl, rfl⟩, .inr (.inr (.inl ⟨e7, e8, e9, e12, trivial, A47, cp47, ⟨rfl, rfl, trivial⟩, List.Perm.refl _⟩))⟩
   ·have u39 : ρ 39 = .tuple #[.slice A47 (heightP l cl.slots).1.length cp47, .int .i64 (heightP l cl.slots).2.1, .int .i64 (heightP l cl.slots).2.2] := hρ.1
    have u47 : ρ 47 = .tuple #[.slice A47 (heightP l cl.slots).1.length cp47, .int .i64 (heightP l cl.slots).2.1, .int .i64 (heightP l cl.slots).2.2] := hρ.2.1
    have u48 : ρ 48 = .slice A47 (heightP l cl.slots).1.length cp47 := hρ.2.2.1
    clear hS hρ
    obtain ⟨base, rfl⟩ := Has.base (ρ := ρ) (l := [(39, .tuple #[.slice A47 (heightP l cl.slots).1.length cp47, .int .i64 (heightP l cl.slots).2.1, .int .i64 (heightP l cl.slots).2.2]), (47, .tuple #[.slice A47 (heightP l cl.slots).1.length cp47, .int .i64 (heightP l cl.slots).2.1, .int .i64 (heightP l cl.slots).2.2]), (48, .slice A47 (heightP l cl.slots).1.length cp47)]) ⟨u39, u47, u48, trivial⟩
    clear u39 u47 u48
    refine RL.perm rfl hL.symm ?_
    clear hL
    refine RL.extract rfl rfl rfl ?_
    refine RL.nil ?_
    exact ⟨rfl, ⟨_, rfl, rfl⟩, .inr (.inr (.inr (.inl ⟨e7, e8, e9, e12, trivial, A47, cp47, ⟨rfl, rfl, rfl, trivial⟩, List.Perm.refl _⟩)))⟩
   have u5 : ρ 5 = .slice A47 (heightP l cl.slots).1.length cp47 := hρ.1
   have u39 : ρ 39 = .tuple #[.slice A47 (heightP l cl.slots).1.length cp47, .int .i64 (heightP l cl.slots).2.1, .int .i64 (heightP l cl.slots).2.2] := hρ.2.1
   have u47 : ρ 47 = .tuple #[.slice A47 (heightP l cl.slots).1.length cp47, .int .i64 (heightP l cl.slots).2.1, .int .i64 (heightP l cl.slots).2.2] := hρ.2.2.1
   have u48 : ρ 48 = .slice A47 (heightP l cl.slots).1.length cp47 := hρ.2.2.2.1
   clear hS hρ
   obtain ⟨base, rfl⟩ := Has.base (ρ := ρ) (l := [(5, .slice A47 (heightP l cl.slots).1.length cp47), (39, .tuple #[.slice A47 (heightP l cl.slots).1.length cp47, .int .i64 (heightP l cl.slots).2.1, .int .i64 (heightP l cl.slots).2.2]), (47, .tuple #[.slice A47 (heightP l cl.slots).1.length cp47, .int .i64 (heightP l cl.slots).2.1, .int .i64 (heightP l cl.slots).2.2]), (48, .slice A47 (heightP l cl.slots).1.length cp47)]) ⟨u5, u39, u47, u48, trivial⟩
   clear u5 u39 u47 u48
   refine RL.perm rfl hL.symm ?_
   clear hL
   refine RL.extract rfl rfl rfl ?_
   refine RL.nil ?_
   exact ⟨rfl, ⟨_, rfl, rfl⟩, .inr (.inr (.inr (.inr (⟨e7, e8, e9, e12, trivial, A47, cp47, ⟨rfl, rfl, rfl, rfl, trivial⟩, List.Perm.refl _⟩))))⟩
  ·intro ρ L D hS
   rcases hS.sp with ⟨e7, e8, e9, e12, -, hρ, hL⟩ | ⟨e7, e8, e9, e12, -, A47, cp47, hρ, hL⟩ | ⟨e7, e8, e9, e12, -, A47, cp47, hρ, hL⟩ | ⟨e7, e8, e9, e12, -, A47, cp47, hρ, hL⟩ | ⟨e7, e8, e9, e12, -, A47, cp47, hρ, hL⟩
   ·exact hS.lo 7 (by kernel_rfl) e7
   ·exact hS.lo 8 (by kernel_rfl) e8
   ·have u39 : ρ 39 = .tuple #[.slice A47 (heightP l cl.slots).1.length cp47, .int .i64 (heightP l cl.slots).2.1, .int .i64 (heightP l cl.slots).2.2] := hρ.1
    have u47 : ρ 47 = .tuple #[.slice A47 (heightP l cl.slots).1.length cp47, .int .i64 (heightP l cl.slots).2.1, .int .i64 (heightP l cl.slots).2.2] := hρ.2.1
    clear hS hρ
    obtain ⟨base, rfl⟩ := Has.base (ρ := ρ) (l := [(39, .tuple #[.slice A47 (heightP l cl.slots).1.length cp47, .int .i64 (heightP l cl.slots).2.1, .int .i64 (heightP l cl.slots).2.2]), (47, .tuple #[.slice A47 (heightP l cl.slots).1.length cp47, .int .i64 (heightP l cl.slots).2.1, .int .i64 (heightP l cl.slots).2.2])]) ⟨u39, u47, trivial⟩
    clear u39 u47
    refine RL.perm rfl hL.symm ?_
    clear hL
    refine RL.extract rfl rfl rfl ?_
    refine RL.nil ?_
    exact ⟨rfl, ⟨_, rfl, rfl⟩, .inr (.inr (.inl ⟨e7, e8, e9, e12, trivial, A47, cp47, ⟨rfl, rfl, trivial⟩, List.Perm.refl _⟩))⟩
   ·have u39 : ρ 39 = .tuple #[.slice A47 (heightP l cl.slots).1.length cp47, .int .i64 (heightP l cl.slots).2.1, .int .i64 (heightP l cl.slots).2.2] := hρ.1
    have u47 : ρ 47 = .tuple #[.slice A47 (heightP l cl.slots).1.length cp47, .int .i64 (heightP l cl.slots).2.1, .int .i64 (heightP l cl.slots).2.2] := hρ.2.1
    have u48 : ρ 48 = .slice A47 (heightP l cl.slots).1.length cp47 := hρ.2.2.1
    clear hS hρ
    obtain ⟨base, rfl⟩ := Has.base (ρ := ρ) (l := [(39, .tuple #[.slice A47 (heightP l cl.slots).1.length cp47, .int .i64 (heightP l cl.slots).2.1, .int .i64 (heightP l cl.slots).2.2]), (47, .tuple #[.slice A47 (heightP l cl.slots).1.length cp47, .int .i64 (heightP l cl.slots).2.1, .int .i64 (heightP l cl.slots).2.2]), (48, .slice A47 (heightP l cl.slots).1.length cp47)]) ⟨u39, u47, u48, trivial⟩
    clear u39 u47 u48
    refine RL.perm rfl hL.symm ?_
    clear hL
    refine RL.extract rfl rfl rfl ?_
    refine RL.nil ?_
    exact ⟨rfl, ⟨_, rfl, rfl⟩, .inr (.inr (.inr (.inl ⟨e7, e8, e9, e12, trivial, A47, cp47, ⟨rfl, rfl, rfl, trivial⟩, List.Perm.refl _⟩)))⟩
   have u5 : ρ 5 = .slice A47 (heightP l cl.slots).1.length cp47 := hρ.1
   have u39 : ρ 39 = .tuple #[.slice A47 (heightP l cl.slots).1.length cp47, .int .i64 (heightP l cl.slots).2.1, .int .i64 (heightP l cl.slots).2.2] := hρ.2.1
   have u47 : ρ 47 = .tuple #[.slice A47 (heightP l cl.slots).1.length cp47, .int .i64 (heightP l cl.slots).2.1, .int .i64 (heightP l cl.slots).2.2] := hρ.2.2.1
   have u48 : ρ 48 = .slice A47 (heightP l cl.slots).1.length cp47 := hρ.2.2.2.1
   clear hS hρ
   obtain ⟨base, rfl⟩ := Has.base (ρ := ρ) (l := [(5, .slice A47 (heightP l cl.slots).1.length cp47), (39, .tuple #[.slice A47 (heightP l cl.slots).1.length cp47, .int .i64 (heightP l cl.slots).2.1, .int .i64 (heightP l cl.slots).2.2]), (47, .tuple #[.slice A47 (heightP l cl.slots).1.length cp47, .int .i64 (heightP l cl.slots).2.1, .int .i64 (heightP l cl.slots).2.2]), (48, .slice A47 (heightP l cl.slots).1.length cp47)]) ⟨u5, u39, u47, u48, trivial⟩
   clear u5 u39 u47 u48
   refine RL.perm rfl hL.symm ?_
   clear hL
   refine RL.extract rfl rfl rfl ?_
   refine RL.nil ?_
   exact ⟨rfl, ⟨_, rfl, rfl⟩, .inr (.inr (.inr (.inr (⟨e7, e8, e9, e12, trivial, A47, cp47, ⟨rfl, rfl, rfl, rfl, trivial⟩, List.Perm.refl _⟩))))⟩
  ·intro ρ L D hS
   rcases hS.sp with ⟨e7, e8, e9, e12, -, hρ, hL⟩ | ⟨e7, e8, e9, e12, -, A47, cp47, hρ, hL⟩ | ⟨e7, e8, e9, e12, -, A47, cp47, hρ, hL⟩ | ⟨e7, e8, e9, e12, -, A47, cp47, hρ, hL⟩ | ⟨e7, e8, e9, e12, -, A47, cp47, hρ, hL⟩
   ·exact hS.lo 7 (by kernel_rfl) e7
   ·exact hS.lo 8 (by kernel_rfl) e8
   ·exact hS.lo 9 (by kernel_rfl) e9
   ·have u39 : ρ 39 = .tuple #[.slice A47 (heightP l cl.slots).1.length cp47, .int .i64 (heightP l cl.slots).2.1, .int .i64 (heightP l cl.slots).2.2] := hρ.1
    have u47 : ρ 47 = .tuple #[.slice A47 (heightP l cl.slots).1.length cp47, .int .i64 (heightP l cl.slots).2.1, .int .i64 (heightP l cl.slots).2.2] := hρ.2.1
    have u48 : ρ 48 = .slice A47 (heightP l cl.slots).1.length cp47 := hρ.2.2.1
    clear hS hρ
    obtain ⟨base, rfl⟩ := Has.base (ρ := ρ) (l := [(39, .tuple #[.slice A47 (heightP l cl.slots).1.length cp47, .int .i64 (heightP l cl.slots).2.1, .int .i64 (heightP l cl.slots).2.2]), (47, .tuple #[.slice A47 (heightP l cl.slots).1.length cp47, .int .i64 (heightP l cl.slots).2.1, .int .i64 (heightP l cl.slots).2.2]), (48, .slice A47 (heightP l cl.slots).1.length cp47)]) ⟨u39, u47, u48, trivial⟩
    clear u39 u47 u48
    refine RL.perm rfl hL.symm ?_
    clear hL
    refine RL.assign rfl ?_
    refine RL.nil ?_
    exact ⟨rfl, ⟨_, rfl, trivial⟩, .inr (.inr (.inr (.inr (⟨e7, e8, e9, rfl, trivial, A47, cp47, ⟨rfl, rfl, rfl, rfl, trivial⟩, (pmm fun _ _ z => by simp only [pm1, pm2, pm3, pm4, pm5, pm6, List.cons_append, List.nil_append] <;> omega)⟩))))⟩
   exact hS.me e12
  ·intro ρ L D hS
   rcases hS.sp with ⟨e7, e8, e9, e12, -, hρ, hL⟩ | ⟨e7, e8, e9, e12, -, A47, cp47, hρ, hL⟩ | ⟨e7, e8, e9, e12, -, A47, cp47, hρ, hL⟩ | ⟨e7, e8, e9, e12, -, A47, cp47, hρ, hL⟩ | ⟨e7, e8, e9, e12, -, A47, cp47, hρ, hL⟩
   ·exact hS.lo 7 (by kernel_rfl) e7
   ·exact hS.lo 8 (by kernel_rfl) e8
   ·exact hS.lo 9 (by kernel_rfl) e9
   ·exact hS.lo 12 (by kernel_rfl) e12
   have u5 : ρ 5 = .slice A47 (heightP l cl.slots).1.length cp47 := hρ.1
   have u39 : ρ 39 = .tuple #[.slice A47 (heightP l cl.slots).1.length cp47, .int .i64 (heightP l cl.slots).2.1, .int .i64 (heightP l cl.slots).2.2] := hρ.2.1
   have u47 : ρ 47 = .tuple #[.slice A47 (heightP l cl.slots).1.length cp47, .int .i64 (heightP l cl.slots).2.1, .int .i64 (heightP l cl.slots).2.2] := hρ.2.2.1
   have u48 : ρ 48 = .slice A47 (heightP l cl.slots).1.length cp47 := hρ.2.2.2.1
   have u49 : ρ 49 = .int .i64 (heightP l cl.slots).2.1 := hS.dep ⟨10, Ground.data⟩ (by simp) rfl _ _ rfl rfl
   clear hS hρ
   obtain ⟨base, rfl⟩ := Has.base (ρ := ρ) (l := [(5, .slice A47 (heightP l cl.slots).1.length cp47), (39, .tuple #[.slice A47 (heightP l cl.slots).1.length cp47, .int .i64 (heightP l cl.slots).2.1, .int .i64 (heightP l cl.slots).2.2]), (47, .tuple #[.slice A47 (heightP l cl.slots).1.length cp47, .int .i64 (heightP l cl.slots).2.1, .int .i64 (heightP l cl.slots).2.2]), (48, .slice A47 (heightP l cl.slots).1.length cp47), (49, .int .i64 (heightP l cl.slots).2.1)]) ⟨u5, u39, u47, u48, u49, trivial⟩
   clear u5 u39 u47 u48 u49
   refine RL.perm rfl hL.symm ?_
   clear hL
   refine RL.assign rfl ?_
   refine RL.nil ?_
   exact ⟨rfl, ⟨_, rfl, rfl⟩, .inr (.inr (.inr (.inr (⟨e7, e8, e9, e12, trivial, A47, cp47, ⟨rfl, rfl, rfl, rfl, trivial⟩, List.Perm.refl _⟩))))⟩
  ·intro ρ L D hS
   rcases hS.sp with ⟨e7, e8, e9, e12, -, hρ, hL⟩ | ⟨e7, e8, e9, e12, -, A47, cp47, hρ, hL⟩ | ⟨e7, e8, e9, e12, -, A47, cp47, hρ, hL⟩ | ⟨e7, e8, e9, e12, -, A47, cp47, hρ, hL⟩ | ⟨e7, e8, e9, e12, -, A47, cp47, hρ, hL⟩
   ·exact hS.lo 7 (by kernel_rfl) e7
   ·exact hS.lo 8 (by kernel_rfl) e8
   ·exact hS.lo 9 (by kernel_rfl) e9
   ·exact hS.lo 12 (by kernel_rfl) e12
   have u5 : ρ 5 = .slice A47 (heightP l cl.slots).1.length cp47 := hρ.1
   have u39 : ρ 39 = .tuple #[.slice A47 (heightP l cl.slots).1.length cp47, .int .i64 (heightP l cl.slots).2.1, .int .i64 (heightP l cl.slots).2.2] := hρ.2.1
   have u47 : ρ 47 = .tuple #[.slice A47 (heightP l cl.slots).1.length cp47, .int .i64 (heightP l cl.slots).2.1, .int .i64 (heightP l cl.slots).2.2] := hρ.2.2.1
   have u48 : ρ 48 = .slice A47 (heightP l cl.slots).1.length cp47 := hρ.2.2.2.1
   have u50 : ρ 50 = .int .i64 (heightP l cl.slots).2.2 := hS.dep ⟨11, Ground.data⟩ (by simp) rfl _ _ rfl rfl
   clear hS hρ
   obtain ⟨base, rfl⟩ := Has.base (ρ := ρ) (l := [(5, .slice A47 (heightP l cl.slots).1.length cp47), (39, .tuple #[.slice A47 (heightP l cl.slots).1.length cp47, .int .i64 (heightP l cl.slots).2.1, .int .i64 (heightP l cl.slots).2.2]), (47, .tuple #[.slice A47 (heightP l cl.slots).1.length cp47, .int .i64 (heightP l cl.slots).2.1, .int .i64 (heightP l cl.slots).2.2]), (48, .slice A47 (heightP l cl.slots).1.length cp47), (50, .int .i64 (heightP l cl.slots).2.2)]) ⟨u5, u39, u47, u48, u50, trivial⟩
   clear u5 u39 u47 u48 u50
   refine RL.perm rfl hL.symm ?_
   clear hL
   refine RL.assign rfl ?_
   refine RL.nil ?_
   exact ⟨rfl, ⟨_, rfl, rfl⟩, .inr (.inr (.inr (.inr (⟨e7, e8, e9, e12, trivial, A47, cp47, ⟨rfl, rfl, rfl, rfl, trivial⟩, List.Perm.refl _⟩))))⟩
  intro ρ L D hD hT hfix hsp
  rcases hsp with ⟨e7, e8, e9, e12, -, hρ, hL⟩ | ⟨e7, e8, e9, e12, -, A47, cp47, hρ, hL⟩ | ⟨e7, e8, e9, e12, -, A47, cp47, hρ, hL⟩ | ⟨e7, e8, e9, e12, -, A47, cp47, hρ, hL⟩ | ⟨e7, e8, e9, e12, -, A47, cp47, hρ, hL⟩
  ·exact done_no hD 7 rfl e7
  ·exact done_no hD 8 rfl e8
  ·exact done_no hD 9 rfl e9
  ·exact done_no hD 12 rfl e12
  have u1 : ρ 1 = .pointer (some ⟨b1, 0, none⟩) := hfix 1 (by decide)
  have u4 : ρ 4 = .int .i64 g := hfix 4 (by decide)
  have u5 : ρ 5 = .slice A47 (heightP l cl.slots).1.length cp47 := hρ.1
  have u7 : ρ 7 = .int .i64 (heightP l cl.slots).2.2 := hT 14 _ _ rfl rfl
  have u39 : ρ 39 = .tuple #[.slice A47 (heightP l cl.slots).1.length cp47, .int .i64 (heightP l cl.slots).2.1, .int .i64 (heightP l cl.slots).2.2] := hρ.2.1
  have u47 : ρ 47 = .tuple #[.slice A47 (heightP l cl.slots).1.length cp47, .int .i64 (heightP l cl.slots).2.1, .int .i64 (heightP l cl.slots).2.2] := hρ.2.2.1
  have u48 : ρ 48 = .slice A47 (heightP l cl.slots).1.length cp47 := hρ.2.2.2.1
  clear hT hfix hD hρ
  obtain ⟨base, rfl⟩ := Has.base (ρ := ρ) (l := [(1, .pointer (some ⟨b1, 0, none⟩)), (4, .int .i64 g), (5, .slice A47 (heightP l cl.slots).1.length cp47), (7, .int .i64 (heightP l cl.slots).2.2), (39, .tuple #[.slice A47 (heightP l cl.slots).1.length cp47, .int .i64 (heightP l cl.slots).2.1, .int .i64 (heightP l cl.slots).2.2]), (47, .tuple #[.slice A47 (heightP l cl.slots).1.length cp47, .int .i64 (heightP l cl.slots).2.1, .int .i64 (heightP l cl.slots).2.2]), (48, .slice A47 (heightP l cl.slots).1.length cp47)]) ⟨u1, u4, u5, u7, u39, u47, u48, trivial⟩
  clear u1 u4 u5 u7 u39 u47 u48
  refine ⟨_, hL.symm, ([(b1, cel 69 (clCells cl.id (.slice Af cl.faces.length cf) cl.slots (.slice Am cl.methods.length cm)))]), List.Sublist.refl _, ?_⟩
  refine X.seq ?_
  refine X.region rfl ?_
  refine RL.move rfl ?_
  refine RL.cmp_s rfl rfl rfl rfl (fun he => ?_) (fun he => ?_)
  ·replace he : (_ : Int) ≠ _ := he
   refine RL.nil ?_
   refine X.cond_t rfl ?_
   refine X.seq ?_
   refine X.region rfl ?_
   refine RL.move rfl ?_
   refine RL.assign rfl ?_
   refine RL.nil ?_
   refine X.ret ?_
   refine ret1 rfl ?_
   show (_ : Value) = _
   rw [ccheckP_m h1 h23 h45, msP_hit hq hl he]
  replace he : ¬ ((_ : Int) ≠ _) := he
  refine RL.nil ?_
  refine X.cond_f rfl ?_
  refine X.skip ?_
  refine X.blk ?_
  refine X.region rfl ?_
  refine RL.move rfl ?_
  refine RL.add rfl rfl rfl (by omega) ?_
  refine RL.assign rfl ?_
  refine RL.nil ?_
  refine X.hyp ⟨rfl, g + 1, by omega, _, (by repeat (first | exact sb0 _ | exact sb1 _ | (rw [List.append_nil]; exact sb0 _) | exact sb2 _ _ | exact sb3 _ _ _ | apply sb4 | apply sb5 | apply sb6)), by omega, fun j l2 hj hl2 => by
      rcases Nat.lt_succ_iff_lt_or_eq.1 hj with h3 | rfl
      · exact hq j l2 h3 hl2
      · rw [hl] at hl2; obtain rfl := Option.some.inj hl2; exact Decidable.not_not.1 he, ⟨rfl, rfl, trivial⟩, rfl⟩
 replace hg : ¬ ((_ : Int) < _) := hg
 refine RL.nil ?_
 refine X.cond_f rfl ?_
 refine X.exit rfl ?_
 refine X.seq ?_
 refine X.region rfl ?_
 refine RL.assign rfl ?_
 refine RL.nil ?_
 refine X.ret ?_
 refine ret1 rfl ?_
 show (_ : Value) = _
 rw [ccheckP_m h1 h23 h45, msP_ok (fun j l hl => hq j l (by have := (List.getElem?_eq_some_iff.1 hl).1; omega) hl)]
theorem f_find1 (cl : Cl) (cs : List Value) (id : List Int) (hi : id.length = 16) (b3 : Nat) (w : World) (hcl : ClR w cl cs) (h3 : w.heap[b3]? = some (cel 47 (gcells id))) :
    Ctr Try.prog 43 [.agg cs.toArray, .pointer (some ⟨b3, 0, none⟩)] w [] fun v _ => v = .bool (decide (cl.id = id)) := by
 obtain ⟨hid, hfo, Af, cf, Am, cm, ms, rfl, hrf, hrm, hms⟩ := hcl
 have e3 : CellsAt w b3 0 (gcells id) := fun j v hv => by rw [cell_entry h3]; simpa using hv
 refine Ctr.intro0 (n := 8) Try.func43 rfl Try.ntmps43 (Nat.le_of_ble_eq_true rfl) ?_
 refine X.seq ?_
 refine X.region rfl ?_
 refine RL.boxA rfl rfl rfl ?_
 intro b1 hb1
 dsimp only at hb1
 refine RL.assign rfl ?_
 refine RL.nil ?_
 refine X.seq ?_
 refine X.region rfl ?_
 refine RL.fieldAddr rfl fd69_0 rfl ?_
 refine RL.loadOA rfl ag47 rfl (clCells_id hid) (gcells_length hid) ?_
 refine RL.loadIA rfl ag47 rfl e3 (by simp) (gcells_length hi) ?_
 refine RL.eqA rfl eqg_guid rfl rfl (eq_guid hid hi) (fun he => ?_) (fun he => ?_)
 ·skip
  refine RL.assign rfl ?_
  refine RL.nil ?_
  refine X.ret ?_
  refine ret1 rfl ?_
  show (_ : Value) = _
  rw [decide_eq_true he]
 skip
 refine RL.assign rfl ?_
 refine RL.nil ?_
 refine X.ret ?_
 refine ret1 rfl ?_
 show (_ : Value) = _
 rw [decide_eq_false he]
theorem f_index (m : List Cl) (hsz : ∀ c ∈ m, ClSz c) (hlen : m.length ≤ 1000) (A : Option Addr) (n : Nat) (w : World) (hm : ModR w m A) (id : List Int) (hi : id.length = 16) (b3 : Nat) (h3 : w.heap[b3]? = some (cel 47 (gcells id))) :
    Ctr Try.prog 42 [.slice A m.length n, .func (.func 43) #[] #[.pointer (some ⟨b3, 0, none⟩)]] w [] fun v _ => v = .int .i64 (match mfindP m id with | some k => ((k : Nat) : Int) | none => -1) := by
 have hm1 := hm
 obtain ⟨bb, oo, hA, hc⟩ := hm.open
 have hb3 : b3 < w.heap.size := (Array.getElem?_eq_some_iff.1 h3).1
 refine Ctr.intro0 (n := 19) Try.func42 rfl Try.ntmps42 (Nat.le_of_ble_eq_true rfl) ?_
 refine X.seq ?_
 refine X.region rfl ?_
 refine RL.assign rfl ?_
 refine RL.nil ?_
 refine X.seq ?_
 refine X.seq ?_
 refine X.region rfl ?_
 refine RL.move rfl ?_
 refine RL.len rfl sl28 rfl ?_
 refine RL.move rfl ?_
 refine RL.nil ?_
 refine X.block ?_
 refine X.loop (γ := Nat) (fun g ρ L => (g ≤ m.length) ∧ (∀ (j : Nat) c, j < g → m[j]? = some c → c.id ≠ id) ∧ Has ρ [(0, .slice A m.length n), (1, .func (.func 43) #[] #[.pointer (some ⟨b3, 0, none⟩)]), (7, .int .i64 m.length), (8, .int .i64 g)] ∧ L = []) (fun g => m.length - g) (0) ⟨_, (by repeat (first | exact sb0 _ | exact sb1 _ | (rw [List.append_nil]; exact sb0 _) | exact sb2 _ _ | exact sb3 _ _ _ | apply sb4 | apply sb5 | apply sb6)), Nat.zero_le _, fun j c hj => absurd hj (Nat.not_lt_zero j), ⟨rfl, rfl, rfl, rfl, trivial⟩, rfl⟩ ?_
 rintro g _ _ ⟨hg0, hq, hρ, rfl⟩
 obtain ⟨base, rfl⟩ := hρ.base
 clear hρ
 refine X.seq ?_
 refine X.region rfl ?_
 refine RL.cmp_s rfl rfl rfl rfl (fun hg => ?_) (fun hg => ?_)
 ·replace hg : (_ : Int) < _ := hg
  obtain ⟨cl, hcl⟩ : ∃ cl, m[g]? = some cl := ⟨_, List.getElem?_eq_getElem (by omega)⟩
  obtain ⟨cs, hcs, hcr⟩ := hc g cl hcl
  have hcz := hsz cl (List.mem_of_getElem? hcl)
  refine RL.nil ?_
  refine X.seq ?_
  refine X.cond_t rfl ?_
  refine X.skip ?_
  refine X.seq ?_
  refine X.block ?_
  refine X.seq ?_
  refine X.region rfl ?_
  refine RL.move rfl ?_
  refine RL.assign rfl ?_
  refine RL.nil ?_
  refine X.seq ?_
  refine X.region rfl ?_
  refine RL.move rfl ?_
  refine RL.move rfl ?_
  refine RL.move rfl ?_
  refine RL.indexAddr rfl sl28 rfl rfl (hA (by omega)) rfl (by omega) ?_
  refine RL.loadIA rfl ag69 rfl hcs (by simp) hcr.len ?_
  refine RL.fnV (f := 43) (caps := [.pointer (some ⟨b3, 0, none⟩)]) (vals := [.agg cs.toArray]) (Lp := []) (Lr := []) rfl rfl rfl en43 (List.Perm.refl _) rfl (fun w1 hw1 => f_find1 cl cs id hi b3 w1 (hcr.st0 hw1) (by rw [hw1.keep b3 hb3 (by simp)]; exact h3)) ?_
  rintro _ _ rfl
  refine RL.drop rfl (List.sublist_append_right _ _) ?_
  refine RL.nil ?_
  refine X.cond_s rfl (fun he => ?_) (fun he => ?_)
  ·refine X.seq ?_
   refine X.region rfl ?_
   refine RL.move rfl ?_
   refine RL.assign rfl ?_
   refine RL.nil ?_
   refine X.ret ?_
   refine ret1 rfl ?_
   show (_ : Value) = _
   rw [mfindP_some hcl he hq]
  refine X.skip ?_
  refine X.blk ?_
  refine X.region rfl ?_
  refine RL.add rfl rfl rfl (by omega) ?_
  refine RL.move rfl ?_
  refine RL.nil ?_
  refine X.hyp ⟨rfl, g + 1, by omega, _, (by repeat (first | exact sb0 _ | exact sb1 _ | (rw [List.append_nil]; exact sb0 _) | exact sb2 _ _ | exact sb3 _ _ _ | apply sb4 | apply sb5 | apply sb6)), by omega, fun j c hj hcj => by
      rcases Nat.lt_succ_iff_lt_or_eq.1 hj with h3 | rfl
      · exact hq j c h3 hcj
      · rw [hcl] at hcj; obtain rfl := Option.some.inj hcj; exact he, ⟨rfl, rfl, rfl, rfl, trivial⟩, rfl⟩
 replace hg : ¬ ((_ : Int) < _) := hg
 refine RL.nil ?_
 refine X.seq ?_
 refine X.cond_f rfl ?_
 refine X.exit rfl ?_
 refine X.seq ?_
 refine X.region rfl ?_
 refine RL.assign rfl ?_
 refine RL.nil ?_
 refine X.ret ?_
 refine ret1 rfl ?_
 show (_ : Value) = _
 rw [mfindP_none (fun j c hcj => hq j c (by have := (List.getElem?_eq_some_iff.1 hcj).1; omega) hcj)]
theorem f_mfind (m : List Cl) (hsz : ∀ c ∈ m, ClSz c) (hlen : m.length ≤ 1000) (A : Option Addr) (n : Nat) (w : World) (hm : ModR w m A) (id : List Int) (hi : id.length = 16) :
    Ctr Try.prog 34 [.agg #[.slice A m.length n], .agg (gcells id).toArray] w [] fun v _ => v = (match mfindP m id with | some k => .tuple #[.int .i64 ((k : Nat) : Int), .int .i64 0] | none => .tuple #[.int .i64 0, .int .i64 8]) := by
 refine Ctr.intro0 (n := 14) Try.func34 rfl Try.ntmps34 (Nat.le_of_ble_eq_true rfl) ?_
 refine X.seq ?_
 refine X.region rfl ?_
 refine RL.boxA rfl rfl rfl ?_
 intro b2 hb2
 dsimp only at hb2
 refine RL.boxA rfl rfl rfl ?_
 intro b3 hb3
 dsimp only at hb3
 refine RL.assign rfl ?_
 refine RL.assign rfl ?_
 refine RL.nil ?_
 refine X.seq ?_
 refine X.region rfl ?_
 refine RL.fieldAddr rfl fd30_0 rfl ?_
 refine RL.loadO rfl sc28 rfl rfl ?_
 refine RL.makeFunc rfl rfl rfl ?_
 refine RL.fn0 rfl rfl rfl en42 (fun w hw => (f_index m hsz hlen A n w (hm.st0 hw) id hi b3 (hw.own (b3, _) (by simp)))) rfl ?_
 rintro _ _ rfl
 refine RL.assign rfl ?_
 refine RL.nil ?_
 refine X.seq ?_
 refine X.seq ?_
 refine X.region rfl ?_
 refine RL.move rfl ?_
 refine RL.cmp_s rfl rfl rfl rfl (fun h => ?_) (fun h => ?_)
 ·replace h : (_ : Int) < _ := h
  refine RL.nil ?_
  refine X.cond_t rfl ?_
  refine X.seq ?_
  refine X.region rfl ?_
  refine RL.assign rfl ?_
  refine RL.assign rfl ?_
  refine RL.nil ?_
  refine X.ret ?_
  refine ret2 rfl ?_
  show (_ : Value) = _
  cases hf : mfindP m id with
  | none => rfl
  | some k => rw [hf] at h; simp only [] at h; omega
 replace h : ¬ ((_ : Int) < _) := h
 refine RL.nil ?_
 refine X.cond_f rfl ?_
 refine X.skip ?_
 refine X.seq ?_
 refine X.region rfl ?_
 refine RL.move rfl ?_
 refine RL.assign rfl ?_
 refine RL.assign rfl ?_
 refine RL.nil ?_
 refine X.ret ?_
 refine ret2 rfl ?_
 cases hf : mfindP m id with
 | none => rw [hf] at h; simp at h
 | some k => rfl
theorem f_rmfind (m : List Cl) (hsz : ∀ c ∈ m, ClSz c) (hlen : m.length ≤ 1000) (A : Option Addr) (n : Nat) (w : World) (hm : ModR w m A) (id : List Int) (hi : id.length = 16) :
    Ctr Try.prog 36 [.agg #[.slice A m.length n], .agg (gcells id).toArray] w [] fun v _ => v = .int .i64 (match mfindP m id with | some k => ((k : Nat) : Int) | none => -1) := by
 have hm1 := hm
 obtain ⟨bb, oo, hA, hc⟩ := hm.open
 refine Ctr.intro0 (n := 22) Try.func36 rfl Try.ntmps36 (Nat.le_of_ble_eq_true rfl) ?_
 refine X.seq ?_
 refine X.region rfl ?_
 refine RL.boxA rfl rfl rfl ?_
 intro b2 hb2
 dsimp only at hb2
 refine RL.boxA rfl rfl rfl ?_
 intro b3 hb3
 dsimp only at hb3
 refine RL.assign rfl ?_
 refine RL.nil ?_
 refine X.seq ?_
 refine X.seq ?_
 refine X.region rfl ?_
 refine RL.assign rfl ?_
 refine RL.nil ?_
 refine X.block ?_
 refine X.loop (γ := Nat) (fun g ρ L => (g ≤ m.length) ∧ (∀ (j : Nat) c, j < g → m[j]? = some c → c.id ≠ id) ∧ Has ρ [(2, .pointer (some ⟨b2, 0, none⟩)), (3, .pointer (some ⟨b3, 0, none⟩)), (5, .int .i64 g)] ∧ L = [(b3, cel 47 (gcells id)), (b2, cel 30 [.slice A m.length n])]) (fun g => m.length - g) (0) ⟨_, (by repeat (first | exact sb0 _ | exact sb1 _ | (rw [List.append_nil]; exact sb0 _) | exact sb2 _ _ | exact sb3 _ _ _ | apply sb4 | apply sb5 | apply sb6)), Nat.zero_le _, fun j c hj => absurd hj (Nat.not_lt_zero j), ⟨rfl, rfl, rfl, trivial⟩, rfl⟩ ?_
 rintro g _ _ ⟨hg0, hq, hρ, rfl⟩
 obtain ⟨base, rfl⟩ := hρ.base
 clear hρ
 refine X.seq ?_
 refine X.seq ?_
 refine X.region rfl ?_
 refine RL.move rfl ?_
 refine RL.fieldAddr rfl fd30_0 rfl ?_
 refine RL.loadO rfl sc28 rfl rfl ?_
 refine RL.len rfl sl28 rfl ?_
 refine RL.cmp_s rfl rfl rfl rfl (fun hg => ?_) (fun hg => ?_)
 ·replace hg : (_ : Int) < _ := hg
  obtain ⟨cl, hcl⟩ : ∃ cl, m[g]? = some cl := ⟨_, List.getElem?_eq_getElem (by omega)⟩
  obtain ⟨cs, hcs, hcr⟩ := hc g cl hcl
  have hcz := hsz cl (List.mem_of_getElem? hcl)
  obtain ⟨hid, hfo, Af, cf, Am, cm, ms, rfl, hrf, hrm, hms⟩ := hcr
  refine RL.nil ?_
  refine X.cond_t rfl ?_
  refine X.skip ?_
  refine X.seq ?_
  refine X.block ?_
  refine X.seq ?_
  refine X.draw (by kernel_rfl) (by kernel_rfl) ?_
  refine RL.fieldAddr rfl fd30_0 rfl ?_
  refine RL.loadO rfl sc28 rfl rfl ?_
  refine RL.move rfl ?_
  refine RL.indexAddr rfl sl28 rfl rfl (hA (by omega)) rfl (by omega) ?_
  refine RL.fieldAddr rfl fd69_0 rfl ?_
  refine RL.loadIA rfl ag47 rfl (cl_id_at hid hcs) (by simp) (gcells_length hid) ?_
  refine RL.loadOA rfl ag47 rfl (take_all (gcells_length hi)) (gcells_length hi) ?_
  refine RL.eqA rfl eqg_guid rfl rfl (eq_guid hid hi) (fun he => ?_) (fun he => ?_)
  ·skip
   refine RL.nil ?_
   refine X.cond_t rfl ?_
   refine X.seq ?_
   refine X.region rfl ?_
   refine RL.move rfl ?_
   refine RL.assign rfl ?_
   refine RL.nil ?_
   refine X.ret ?_
   refine ret1 rfl ?_
   show (_ : Value) = _
   rw [mfindP_some hcl he hq]
  skip
  refine RL.nil ?_
  refine X.cond_f rfl ?_
  refine X.skip ?_
  refine X.blk ?_
  refine X.region rfl ?_
  refine RL.move rfl ?_
  refine RL.add rfl rfl rfl (by omega) ?_
  refine RL.assign rfl ?_
  refine RL.nil ?_
  refine X.hyp ⟨rfl, g + 1, by omega, _, (by repeat (first | exact sb0 _ | exact sb1 _ | (rw [List.append_nil]; exact sb0 _) | exact sb2 _ _ | exact sb3 _ _ _ | apply sb4 | apply sb5 | apply sb6)), by omega, fun j c hj hcj => by
      rcases Nat.lt_succ_iff_lt_or_eq.1 hj with h3 | rfl
      · exact hq j c h3 hcj
      · rw [hcl] at hcj; obtain rfl := Option.some.inj hcj; exact he, ⟨rfl, rfl, rfl, trivial⟩, rfl⟩
 replace hg : ¬ ((_ : Int) < _) := hg
 refine RL.nil ?_
 refine X.cond_f rfl ?_
 refine X.exit rfl ?_
 refine X.seq ?_
 refine X.region rfl ?_
 refine RL.assign rfl ?_
 refine RL.nil ?_
 refine X.ret ?_
 refine ret1 rfl ?_
 show (_ : Value) = _
 rw [mfindP_none (fun j c hcj => hq j c (by have := (List.getElem?_eq_some_iff.1 hcj).1; omega) hcj)]
theorem f_mcheck (m : List Cl) (hsz : ∀ c ∈ m, ClSz c) (hlen : m.length ≤ 1000) (A : Option Addr) (n : Nat) (w : World) (hm : ModR w m A) :
    Ctr Try.prog 39 [.agg #[.slice A m.length n]] w [] fun v _ => v = .tuple #[.int .i64 (mcheckP m).1, .int .i64 (mcheckP m).2] := by
 have hm1 := hm
 obtain ⟨bb, oo, hA, hc⟩ := hm.open
 refine Ctr.intro0 (n := 45) Try.func39 rfl Try.ntmps39 (Nat.le_of_ble_eq_true rfl) ?_
 refine X.seq ?_
 refine X.region rfl ?_
 refine RL.boxA rfl rfl rfl ?_
 intro b1 hb1
 dsimp only at hb1
 refine RL.assign rfl ?_
 refine RL.assign rfl ?_
 refine RL.nil ?_
 refine X.seq ?_
 refine X.seq ?_
 refine X.region rfl ?_
 refine RL.fieldAddr rfl fd30_0 rfl ?_
 refine RL.loadO rfl sc28 rfl rfl ?_
 refine RL.len rfl sl28 rfl ?_
 refine RL.cmp_s rfl rfl rfl rfl (fun h1 => ?_) (fun h1 => ?_)
 ·replace h1 : (_ : Int) < _ := h1
  refine RL.move rfl ?_
  refine RL.skip rfl ?_
  refine RL.skip rfl ?_
  refine RL.skip rfl ?_
  refine RL.skip rfl ?_
  refine RL.pick_t rfl rfl ?_
  refine RL.nil ?_
  refine X.cond_t rfl ?_
  refine X.seq ?_
  refine X.region rfl ?_
  refine RL.assign rfl ?_
  refine RL.assign rfl ?_
  refine RL.nil ?_
  refine X.ret ?_
  refine ret2 rfl ?_
  show (_ : Value) = _
  rw [mcheckP_len (.inl (by omega))]
 replace h1 : ¬ ((_ : Int) < _) := h1
 refine RL.move rfl ?_
 refine RL.fieldAddr rfl fd30_0 rfl ?_
 refine RL.loadO rfl sc28 rfl rfl ?_
 refine RL.len rfl sl28 rfl ?_
 refine RL.cmp_s rfl rfl rfl rfl (fun h2 => ?_) (fun h2 => ?_)
 ·replace h2 : (_ : Int) > _ := h2
  refine RL.pick_f rfl rfl ?_
  refine RL.nil ?_
  refine X.cond_t rfl ?_
  refine X.seq ?_
  refine X.region rfl ?_
  refine RL.assign rfl ?_
  refine RL.assign rfl ?_
  refine RL.nil ?_
  refine X.ret ?_
  refine ret2 rfl ?_
  show (_ : Value) = _
  rw [mcheckP_len (.inr (by omega))]
 replace h2 : ¬ ((_ : Int) > _) := h2
 have hl : ¬ (m.length < 1 ∨ 8 < m.length) := by omega
 refine RL.pick_f rfl rfl ?_
 refine RL.nil ?_
 refine X.cond_f rfl ?_
 refine X.skip ?_
 refine X.seq ?_
 refine X.seq ?_
 refine X.region rfl ?_
 refine RL.fieldAddr rfl fd30_0 rfl ?_
 refine RL.loadO rfl sc28 rfl rfl ?_
 refine RL.len rfl sl28 rfl ?_
 refine RL.move rfl ?_
 refine RL.nil ?_
 refine X.block ?_
 refine X.loop (γ := Nat) (fun g ρ L => (g ≤ m.length) ∧ (∀ (j : Nat) c, j < g → m[j]? = some c → verC m j c = none) ∧ Has ρ [(1, .pointer (some ⟨b1, 0, none⟩)), (20, .slice A m.length n), (21, .int .i64 m.length), (22, .int .i64 g)] ∧ L = [(b1, cel 30 [.slice A m.length n])]) (fun g => m.length - g) (0) ⟨_, (by repeat (first | exact sb0 _ | exact sb1 _ | (rw [List.append_nil]; exact sb0 _) | exact sb2 _ _ | exact sb3 _ _ _ | apply sb4 | apply sb5 | apply sb6)), Nat.zero_le _, fun j c hj => absurd hj (Nat.not_lt_zero j), ⟨rfl, rfl, rfl, rfl, trivial⟩, rfl⟩ ?_
 rintro g _ _ ⟨hg0, hq, hρ, rfl⟩
 obtain ⟨base, rfl⟩ := hρ.base
 clear hρ
 refine X.seq ?_
 refine X.region rfl ?_
 refine RL.cmp_s rfl rfl rfl rfl (fun hg => ?_) (fun hg => ?_)
 ·replace hg : (_ : Int) < _ := hg
  obtain ⟨cl, hcl⟩ : ∃ cl, m[g]? = some cl := ⟨_, List.getElem?_eq_getElem (by omega)⟩
  obtain ⟨cs, hcs, hcr⟩ := hc g cl hcl
  have hcz := hsz cl (List.mem_of_getElem? hcl)
  refine RL.nil ?_
  refine X.seq ?_
  refine X.cond_t rfl ?_
  refine X.skip ?_
  refine X.seq ?_
  refine X.block ?_
  refine X.seq ?_
  refine X.region rfl ?_
  refine RL.move rfl ?_
  refine RL.indexAddr rfl sl28 rfl rfl (hA (by omega)) rfl (by omega) ?_
  refine RL.loadIA rfl ag69 rfl hcs (by simp) hcr.len ?_
  refine RL.alloc rfl rfl zt69 ?_
  intro b5 hb5
  dsimp only at hb5
  refine RL.assign rfl ?_
  refine RL.stA rfl rfl ag69.size rfl rfl hcr.len rfl hcr.one ?_
  refine RL.nil ?_
  refine X.seq ?_
  refine X.seq ?_
  refine X.region rfl ?_
  refine RL.loadOA rfl ag69 rfl (take_all hcr.len) hcr.len ?_
  refine RL.fn0 rfl rfl rfl en46 (fun w hw => (f_cclass cl cs hcz w (hcr.st0 hw))) rfl ?_
  rintro _ _ rfl
  refine RL.assign rfl ?_
  refine RL.nil ?_
  refine X.seq ?_
  refine X.region rfl ?_
  refine RL.move rfl ?_
  refine RL.cmp_s rfl rfl rfl rfl (fun he => ?_) (fun he => ?_)
  ·replace he : (_ : Int) ≠ _ := he
   refine RL.nil ?_
   refine X.cond_t rfl ?_
   refine X.seq ?_
   refine X.region rfl ?_
   refine RL.move rfl ?_
   refine RL.move rfl ?_
   refine RL.assign rfl ?_
   refine RL.assign rfl ?_
   refine RL.nil ?_
   refine X.ret ?_
   refine ret2 rfl ?_
   show (_ : Value) = _
   rw [mcheckP_hit hl hcl hq (verC_c he)]
  replace he : ¬ ((_ : Int) ≠ _) := he
  obtain ⟨k, hk1, hk2⟩ := mfindP_self hcl
  have hci := hcr.id
  refine RL.nil ?_
  refine X.cond_f rfl ?_
  refine X.skip ?_
  refine X.seq ?_
  refine X.region rfl ?_
  refine RL.loadOA rfl ag30 rfl rfl rfl ?_
  refine RL.fieldAddr rfl fd69_0 rfl ?_
  refine RL.loadOA rfl ag47 rfl (by obtain ⟨hid, hfo, Af, cf, Am, cm, ms, rfl, _⟩ := hcr; exact clCells_id hid) (gcells_length hci) ?_
  refine RL.fn0 rfl rfl rfl en34 (fun w hw => (f_mfind m hsz hlen A n w (hm1.st0 hw) cl.id hci).mono (fun v L h => (by rw [hk1] at h; exact h : v = .tuple #[.int .i64 ((k : Nat) : Int), .int .i64 0]))) rfl ?_
  rintro _ _ rfl
  refine RL.move rfl ?_
  refine RL.extract rfl rfl rfl ?_
  refine RL.extract rfl rfl rfl ?_
  refine RL.assign rfl ?_
  refine RL.assign rfl ?_
  refine RL.nil ?_
  refine X.seq ?_
  refine X.region rfl ?_
  refine RL.move rfl ?_
  refine RL.move rfl ?_
  refine RL.cmp_s rfl rfl rfl rfl (fun ht => ?_) (fun ht => ?_)
  ·replace ht : (_ : Int) < _ := ht
   refine RL.nil ?_
   refine X.cond_t rfl ?_
   refine X.seq ?_
   refine X.region rfl ?_
   refine RL.move rfl ?_
   refine RL.assign rfl ?_
   refine RL.assign rfl ?_
   refine RL.nil ?_
   refine X.ret ?_
   refine ret2 rfl ?_
   show (_ : Value) = _
   rw [mcheckP_hit hl hcl hq (verC_t he (by rw [hk1]; show k < g; omega))]
  replace ht : ¬ ((_ : Int) < _) := ht
  refine RL.nil ?_
  refine X.cond_f rfl ?_
  refine X.skip ?_
  refine X.blk ?_
  refine X.region rfl ?_
  refine RL.add rfl rfl rfl (by omega) ?_
  refine RL.move rfl ?_
  refine RL.nil ?_
  refine X.hyp ⟨rfl, g + 1, by omega, _, (by repeat (first | exact sb0 _ | exact sb1 _ | (rw [List.append_nil]; exact sb0 _) | exact sb2 _ _ | exact sb3 _ _ _ | apply sb4 | apply sb5 | apply sb6)), by omega, fun j c hj hcj => by
      rcases Nat.lt_succ_iff_lt_or_eq.1 hj with h3 | rfl
      · exact hq j c h3 hcj
      · rw [hcl] at hcj; obtain rfl := Option.some.inj hcj; exact verC_no he (by rw [hk1]; show ¬ k < j; omega), ⟨rfl, rfl, rfl, rfl, trivial⟩, rfl⟩
 replace hg : ¬ ((_ : Int) < _) := hg
 refine RL.nil ?_
 refine X.seq ?_
 refine X.cond_f rfl ?_
 refine X.exit rfl ?_
 refine X.seq ?_
 refine X.region rfl ?_
 refine RL.assign rfl ?_
 refine RL.assign rfl ?_
 refine RL.nil ?_
 refine X.ret ?_
 refine ret2 rfl ?_
 show (_ : Value) = _
 rw [mcheckP_ok hl (fun j c hcj => hq j c (by have := (List.getElem?_eq_some_iff.1 hcj).1; omega) hcj)]
theorem f_rmcheck (m : List Cl) (hsz : ∀ c ∈ m, ClSz c) (hlen : m.length ≤ 1000) (A : Option Addr) (n : Nat) (w : World) (hm : ModR w m A) :
    Ctr Try.prog 35 [.agg #[.slice A m.length n]] w [] fun v _ => v = .tuple #[.int .i64 (mcheckP m).1, .int .i64 (mcheckP m).2] := by
 have hm1 := hm
 obtain ⟨bb, oo, hA, hc⟩ := hm.open
 refine Ctr.intro0 (n := 44) Try.func35 rfl Try.ntmps35 (Nat.le_of_ble_eq_true rfl) ?_
 refine X.seq ?_
 refine X.region rfl ?_
 refine RL.boxA rfl rfl rfl ?_
 intro b1 hb1
 dsimp only at hb1
 refine RL.assign rfl ?_
 refine RL.assign rfl ?_
 refine RL.nil ?_
 refine X.seq ?_
 refine X.seq ?_
 refine X.region rfl ?_
 refine RL.fieldAddr rfl fd30_0 rfl ?_
 refine RL.loadO rfl sc28 rfl rfl ?_
 refine RL.len rfl sl28 rfl ?_
 refine RL.cmp_s rfl rfl rfl rfl (fun h1 => ?_) (fun h1 => ?_)
 ·replace h1 : (_ : Int) = _ := h1
  refine RL.move rfl ?_
  refine RL.skip rfl ?_
  refine RL.skip rfl ?_
  refine RL.skip rfl ?_
  refine RL.skip rfl ?_
  refine RL.pick_t rfl rfl ?_
  refine RL.nil ?_
  refine X.cond_t rfl ?_
  refine X.seq ?_
  refine X.region rfl ?_
  refine RL.assign rfl ?_
  refine RL.assign rfl ?_
  refine RL.nil ?_
  refine X.ret ?_
  refine ret2 rfl ?_
  show (_ : Value) = _
  rw [mcheckP_len (.inl (by omega))]
 replace h1 : ¬ ((_ : Int) = _) := h1
 refine RL.move rfl ?_
 refine RL.fieldAddr rfl fd30_0 rfl ?_
 refine RL.loadO rfl sc28 rfl rfl ?_
 refine RL.len rfl sl28 rfl ?_
 refine RL.cmp_s rfl rfl rfl rfl (fun h2 => ?_) (fun h2 => ?_)
 ·replace h2 : (_ : Int) > _ := h2
  refine RL.pick_f rfl rfl ?_
  refine RL.nil ?_
  refine X.cond_t rfl ?_
  refine X.seq ?_
  refine X.region rfl ?_
  refine RL.assign rfl ?_
  refine RL.assign rfl ?_
  refine RL.nil ?_
  refine X.ret ?_
  refine ret2 rfl ?_
  show (_ : Value) = _
  rw [mcheckP_len (.inr (by omega))]
 replace h2 : ¬ ((_ : Int) > _) := h2
 have hl : ¬ (m.length < 1 ∨ 8 < m.length) := by omega
 refine RL.pick_f rfl rfl ?_
 refine RL.nil ?_
 refine X.cond_f rfl ?_
 refine X.skip ?_
 refine X.seq ?_
 refine X.seq ?_
 refine X.region rfl ?_
 refine RL.assign rfl ?_
 refine RL.nil ?_
 refine X.block ?_
 refine X.loop (γ := Nat) (fun g ρ L => (g ≤ m.length) ∧ (∀ (j : Nat) c, j < g → m[j]? = some c → verC m j c = none) ∧ Has ρ [(1, .pointer (some ⟨b1, 0, none⟩)), (4, .int .i64 g)] ∧ L = [(b1, cel 30 [.slice A m.length n])]) (fun g => m.length - g) (0) ⟨_, (by repeat (first | exact sb0 _ | exact sb1 _ | (rw [List.append_nil]; exact sb0 _) | exact sb2 _ _ | exact sb3 _ _ _ | apply sb4 | apply sb5 | apply sb6)), Nat.zero_le _, fun j c hj => absurd hj (Nat.not_lt_zero j), ⟨rfl, rfl, trivial⟩, rfl⟩ ?_
 rintro g _ _ ⟨hg0, hq, hρ, rfl⟩
 obtain ⟨base, rfl⟩ := hρ.base
 clear hρ
 refine X.seq ?_
 refine X.seq ?_
 refine X.region rfl ?_
 refine RL.move rfl ?_
 refine RL.fieldAddr rfl fd30_0 rfl ?_
 refine RL.loadO rfl sc28 rfl rfl ?_
 refine RL.len rfl sl28 rfl ?_
 refine RL.cmp_s rfl rfl rfl rfl (fun hg => ?_) (fun hg => ?_)
 ·replace hg : (_ : Int) < _ := hg
  obtain ⟨cl, hcl⟩ : ∃ cl, m[g]? = some cl := ⟨_, List.getElem?_eq_getElem (by omega)⟩
  obtain ⟨cs, hcs, hcr⟩ := hc g cl hcl
  have hcz := hsz cl (List.mem_of_getElem? hcl)
  refine RL.nil ?_
  refine X.cond_t rfl ?_
  refine X.skip ?_
  refine X.seq ?_
  refine X.block ?_
  refine X.seq ?_
  refine X.seq ?_
  refine X.region rfl ?_
  refine RL.fieldAddr rfl fd30_0 rfl ?_
  refine RL.loadO rfl sc28 rfl rfl ?_
  refine RL.move rfl ?_
  refine RL.indexAddr rfl sl28 rfl rfl (hA (by omega)) rfl (by omega) ?_
  refine RL.loadIA rfl ag69 rfl hcs (by simp) hcr.len ?_
  refine RL.fn0 rfl rfl rfl en44 (fun w hw => (f_rcclass cl cs hcz w (hcr.st0 hw))) rfl ?_
  rintro _ _ rfl
  refine RL.assign rfl ?_
  refine RL.nil ?_
  refine X.seq ?_
  refine X.region rfl ?_
  refine RL.move rfl ?_
  refine RL.cmp_s rfl rfl rfl rfl (fun he => ?_) (fun he => ?_)
  ·replace he : (_ : Int) ≠ _ := he
   refine RL.nil ?_
   refine X.cond_t rfl ?_
   refine X.seq ?_
   refine X.region rfl ?_
   refine RL.move rfl ?_
   refine RL.move rfl ?_
   refine RL.assign rfl ?_
   refine RL.assign rfl ?_
   refine RL.nil ?_
   refine X.ret ?_
   refine ret2 rfl ?_
   show (_ : Value) = _
   rw [mcheckP_hit hl hcl hq (verC_c he)]
  replace he : ¬ ((_ : Int) ≠ _) := he
  obtain ⟨k, hk1, hk2⟩ := mfindP_self hcl
  have hci := hcr.id
  obtain ⟨hid, hfo, Af, cf, Am, cm, ms, rfl, hrf, hrm, hms⟩ := hcr
  refine RL.nil ?_
  refine X.cond_f rfl ?_
  refine X.skip ?_
  refine X.seq ?_
  refine X.draw (by kernel_rfl) (by kernel_rfl) ?_
  refine RL.loadOA rfl ag30 rfl (take_all rfl) rfl ?_
  refine RL.fieldAddr rfl fd30_0 rfl ?_
  refine RL.loadO rfl sc28 rfl rfl ?_
  refine RL.move rfl ?_
  refine RL.indexAddr rfl sl28 rfl rfl (hA (by omega)) rfl (by omega) ?_
  refine RL.fieldAddr rfl fd69_0 rfl ?_
  refine RL.loadIA rfl ag47 rfl (cl_id_at hid hcs) (by simp) (gcells_length hid) ?_
  refine RL.fnQ rfl rfl en36 (fun w hw => (f_rmfind m hsz hlen A n w (hm1.st0 hw) cl.id hid).mono (fun v L h => (by rw [hk1] at h; exact h : v = .int .i64 ((k : Nat) : Int)))) rfl ?_
  refine RL.move rfl ?_
  refine RL.cmp_s rfl rfl rfl rfl (fun ht => ?_) (fun ht => ?_)
  ·replace ht : (_ : Int) < _ := ht
   refine RL.nil ?_
   refine X.cond_t rfl ?_
   refine X.seq ?_
   refine X.region rfl ?_
   refine RL.move rfl ?_
   refine RL.assign rfl ?_
   refine RL.assign rfl ?_
   refine RL.nil ?_
   refine X.ret ?_
   refine ret2 rfl ?_
   show (_ : Value) = _
   rw [mcheckP_hit hl hcl hq (verC_t he (by rw [hk1]; show k < g; omega))]
  replace ht : ¬ ((_ : Int) < _) := ht
  refine RL.nil ?_
  refine X.cond_f rfl ?_
  refine X.skip ?_
  refine X.blk ?_
  refine X.region rfl ?_
  refine RL.move rfl ?_
  refine RL.add rfl rfl rfl (by omega) ?_
  refine RL.assign rfl ?_
  refine RL.nil ?_
  refine X.hyp ⟨rfl, g + 1, by omega, _, (by repeat (first | exact sb0 _ | exact sb1 _ | (rw [List.append_nil]; exact sb0 _) | exact sb2 _ _ | exact sb3 _ _ _ | apply sb4 | apply sb5 | apply sb6)), by omega, fun j c hj hcj => by
      rcases Nat.lt_succ_iff_lt_or_eq.1 hj with h3 | rfl
      · exact hq j c h3 hcj
      · rw [hcl] at hcj; obtain rfl := Option.some.inj hcj; exact verC_no he (by rw [hk1]; show ¬ k < j; omega), ⟨rfl, rfl, trivial⟩, rfl⟩
 replace hg : ¬ ((_ : Int) < _) := hg
 refine RL.nil ?_
 refine X.cond_f rfl ?_
 refine X.exit rfl ?_
 refine X.seq ?_
 refine X.region rfl ?_
 refine RL.assign rfl ?_
 refine RL.assign rfl ?_
 refine RL.nil ?_
 refine X.ret ?_
 refine ret2 rfl ?_
 show (_ : Value) = _
 rw [mcheckP_ok hl (fun j c hcj => hq j c (by have := (List.getElem?_eq_some_iff.1 hcj).1; omega) hcj)]
end Go.Proofs.Ytnebpklmbefmfaa

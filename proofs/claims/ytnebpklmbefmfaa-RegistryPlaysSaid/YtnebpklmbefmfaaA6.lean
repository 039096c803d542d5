/- Faces: found, judged. -/
import Derived.Test.YtnebpklmbefmfaaFaceD
set_option linter.unusedVariables false
set_option linter.unusedSimpArgs false
namespace Go.Proofs.Ytnebpklmbefmfaa
open Go.RowKit
attribute [local irreducible] X RL W Ctr
theorem f_ffind (fs : List Face) (hok : ∀ f ∈ fs, FaceOk f) (hlen : fs.length ≤ 1000) (A : Option Addr) (c : Nat) (w : World) (hrd : Rd w A (fcells fs)) (id : List Int) (hid : id.length = 16) :
    Ctr Try.prog 58 [.slice A fs.length c, .agg (gcells id).toArray] w [] fun v _ => v = (match findP fs id with | some k => .tuple #[.int .i64 k, .int .i64 0] | none => .tuple #[.int .i64 0, .int .i64 7]) := by
 obtain ⟨bb, oo, hA0, hc⟩ := hrd
 have hA : 0 < fs.length → A = some ⟨bb, oo, none⟩ := fun h => hA0 (by rw [fcells_len hok]; omega)
 refine Ctr.intro0 (n := 21) Try.func58 rfl Try.ntmps58 (Nat.le_of_ble_eq_true rfl) ?_
 refine X.seq ?_
 refine X.region rfl ?_
 refine RL.boxA rfl rfl rfl ?_
 intro b1 hb1
 dsimp only at hb1
 refine RL.assign rfl ?_
 refine RL.assign rfl ?_
 refine RL.nil ?_
 refine X.seq ?_
 refine X.seq ?_
 refine X.region rfl ?_
 refine RL.move rfl ?_
 refine RL.len rfl sl66 rfl ?_
 refine RL.move rfl ?_
 refine RL.nil ?_
 refine X.block ?_
 refine X.loop (γ := Nat) (fun g ρ L => (g ≤ fs.length) ∧ (∀ j f, j < g → fs[j]? = some f → f.id ≠ id) ∧ Has ρ [(3, .pointer (some ⟨b1, 0, none⟩)), (8, .slice A fs.length c), (9, .int .i64 fs.length), (10, .int .i64 g)] ∧ L = [(b1, cel 47 (gcells id))]) (fun g => fs.length - g) (0) ⟨_, (by repeat (first | exact sb0 _ | exact sb1 _ | (rw [List.append_nil]; exact sb0 _) | exact sb2 _ _ | exact sb3 _ _ _ | apply sb4 | apply sb5 | apply sb6)), Nat.zero_le _, fun j f hj => absurd hj (Nat.not_lt_zero j), ⟨rfl, rfl, rfl, rfl, trivial⟩, rfl⟩ ?_
 rintro g _ _ ⟨q1, q2, hρ, rfl⟩
 obtain ⟨base, rfl⟩ := hρ.base
 clear hρ
 refine X.seq ?_
 refine X.region rfl ?_
 refine RL.cmp_s rfl rfl rfl rfl (fun h => ?_) (fun h => ?_)
 ·replace h : (_ : Int) < _ := h
  obtain ⟨f, hf⟩ : ∃ f, fs[g]? = some f := ⟨_, List.getElem?_eq_getElem (by omega)⟩
  have hfo := hok f (List.mem_of_getElem? hf)
  refine RL.nil ?_
  refine X.seq ?_
  refine X.cond_t rfl ?_
  refine X.skip ?_
  refine X.seq ?_
  refine X.block ?_
  refine X.seq ?_
  refine X.region rfl ?_
  refine RL.move rfl ?_
  refine RL.indexAddr rfl sl66 rfl rfl (hA (by omega)) rfl (by omega) ?_
  refine RL.loadIA rfl ag93 rfl (face_at hc hok hf) (by simp) (Face.len hfo) ?_
  refine RL.alloc rfl rfl zt93 ?_
  intro b2 hb2
  dsimp only at hb2
  refine RL.assign rfl ?_
  refine RL.stA rfl rfl ag93.size rfl rfl (Face.len hfo) rfl (face_one f) ?_
  refine RL.nil ?_
  refine X.seq ?_
  refine X.region rfl ?_
  refine RL.fieldAddr rfl fd93_0 rfl ?_
  refine RL.loadOA rfl ag47 rfl (Face.idcells hfo) (gcells_length hfo) ?_
  refine RL.loadOA rfl ag47 rfl (take_all (gcells_length hid)) (gcells_length hid) ?_
  refine RL.eqA rfl eqg_guid rfl rfl (eq_guid hfo hid) (fun hh => ?_) (fun hh => ?_)
  ·skip
   refine RL.nil ?_
   refine X.cond_t rfl ?_
   refine X.seq ?_
   refine X.region rfl ?_
   refine RL.move rfl ?_
   refine RL.assign rfl ?_
   refine RL.assign rfl ?_
   refine RL.nil ?_
   refine X.ret ?_
   refine ret2 rfl ?_
   show (_ : Value) = _
   rw [show findP fs id = some g from ?_]
   unfold findP
   rw [List.findIdx?_eq_some_iff_getElem]
   refine ⟨by omega, ?_, fun j hj => ?_⟩
   · rw [List.getElem?_eq_getElem (by omega)] at hf; rw [Option.some.inj hf]; simp [hh]
   · simpa using q2 j _ hj (List.getElem?_eq_getElem (by omega))
  skip
  refine RL.nil ?_
  refine X.cond_f rfl ?_
  refine X.skip ?_
  refine X.blk ?_
  refine X.region rfl ?_
  refine RL.add rfl rfl rfl (by omega) ?_
  refine RL.move rfl ?_
  refine RL.nil ?_
  refine X.hyp ⟨rfl, g + 1, by omega, _, (by repeat (first | exact sb0 _ | exact sb1 _ | (rw [List.append_nil]; exact sb0 _) | exact sb2 _ _ | exact sb3 _ _ _ | apply sb4 | apply sb5 | apply sb6)), by omega, fun j f2 hj hf2 => by
      rcases Nat.lt_succ_iff_lt_or_eq.1 hj with h3 | rfl
      · exact q2 j f2 h3 hf2
      · rw [hf] at hf2; obtain rfl := Option.some.inj hf2; exact hh, ⟨rfl, rfl, rfl, rfl, trivial⟩, rfl⟩
 replace h : ¬ ((_ : Int) < _) := h
 refine RL.nil ?_
 refine X.seq ?_
 refine X.cond_f rfl ?_
 refine X.exit rfl ?_
 refine X.seq ?_
 refine X.region rfl ?_
 refine RL.assign rfl ?_
 refine RL.assign rfl ?_
 refine RL.nil ?_
 refine X.ret ?_
 refine ret2 rfl ?_
 show (_ : Value) = _
 rw [show findP fs id = none from ?_]
 unfold findP
 rw [List.findIdx?_eq_none_iff]
 intro f hf
 obtain ⟨j, hj⟩ := List.getElem?_of_mem hf
 have := (List.getElem?_eq_some_iff.1 hj).1
 simpa using q2 j f (by omega) hj
theorem f_frcheck (fs : List Face) (hok : ∀ f ∈ fs, FaceOk f) (hlen : fs.length ≤ 1000) (A : Option Addr) (c : Nat) (w : World) (hrd : Rd w A (fcells fs)) :
    Ctr Try.prog 50 [.slice A fs.length c] w [] fun v _ => v = .int .i64 (fcheckP fs) := by
 obtain ⟨bb, oo, hA0, hc⟩ := hrd
 have hA : 0 < fs.length → A = some ⟨bb, oo, none⟩ := fun h => hA0 (by rw [fcells_len hok]; omega)
 refine Ctr.intro0 (n := 52) Try.func50 rfl Try.ntmps50 (Nat.le_of_ble_eq_true rfl) ?_
 refine X.seq ?_
 refine X.region rfl ?_
 refine RL.assign rfl ?_
 refine RL.nil ?_
 refine X.seq ?_
 refine X.seq ?_
 refine X.region rfl ?_
 refine RL.move rfl ?_
 refine RL.len rfl sl66 rfl ?_
 refine RL.cmp_s rfl rfl rfl rfl (fun h => ?_) (fun h => ?_)
 ·replace h : (_ : Int) = _ := h
  refine RL.move rfl ?_
  refine RL.skip rfl ?_
  refine RL.skip rfl ?_
  refine RL.skip rfl ?_
  refine RL.pick_t rfl rfl ?_
  refine RL.nil ?_
  refine X.cond_t rfl ?_
  refine X.seq ?_
  refine X.region rfl ?_
  refine RL.assign rfl ?_
  refine RL.nil ?_
  refine X.ret ?_
  refine ret1 rfl ?_
  show (_ : Value) = _
  rw [fcheckP_len (.inl (by omega))]
 replace h : ¬ ((_ : Int) = _) := h
 refine RL.move rfl ?_
 refine RL.move rfl ?_
 refine RL.len rfl sl66 rfl ?_
 refine RL.cmp_s rfl rfl rfl rfl (fun h2 => ?_) (fun h2 => ?_)
 ·replace h2 : (_ : Int) > _ := h2
  refine RL.pick_f rfl rfl ?_
  refine RL.nil ?_
  refine X.cond_t rfl ?_
  refine X.seq ?_
  refine X.region rfl ?_
  refine RL.assign rfl ?_
  refine RL.nil ?_
  refine X.ret ?_
  refine ret1 rfl ?_
  show (_ : Value) = _
  rw [fcheckP_len (.inr (by omega))]
 replace h2 : ¬ ((_ : Int) > _) := h2
 have hl : ¬ (fs.length < 1 ∨ 16 < fs.length) := by omega
 refine RL.pick_f rfl rfl ?_
 refine RL.nil ?_
 refine X.cond_f rfl ?_
 refine X.skip ?_
 refine X.seq ?_
 refine X.seq ?_
 refine X.region rfl ?_
 refine RL.assign rfl ?_
 refine RL.nil ?_
 refine X.block ?_
 refine X.loop (γ := Nat) (fun g ρ L => (g ≤ fs.length) ∧ (∀ j, j < g → fverI fs j = none) ∧ Has ρ [(0, .slice A fs.length c), (3, .int .i64 g)] ∧ L = []) (fun g => fs.length - g) (0) ⟨_, (by repeat (first | exact sb0 _ | exact sb1 _ | (rw [List.append_nil]; exact sb0 _) | exact sb2 _ _ | exact sb3 _ _ _ | apply sb4 | apply sb5 | apply sb6)), Nat.zero_le _, fun j hj => absurd hj (Nat.not_lt_zero j), ⟨rfl, rfl, trivial⟩, rfl⟩ ?_
 rintro g _ _ ⟨q1, q2, hρ, rfl⟩
 obtain ⟨base, rfl⟩ := hρ.base
 clear hρ
 refine X.seq ?_
 refine X.seq ?_
 refine X.region rfl ?_
 refine RL.move rfl ?_
 refine RL.move rfl ?_
 refine RL.len rfl sl66 rfl ?_
 refine RL.cmp_s rfl rfl rfl rfl (fun hg => ?_) (fun hg => ?_)
 ·replace hg : (_ : Int) < _ := hg
  obtain ⟨f, hf⟩ : ∃ f, fs[g]? = some f := ⟨_, List.getElem?_eq_getElem (by omega)⟩
  have hfo := hok f (List.mem_of_getElem? hf)
  refine RL.nil ?_
  refine X.cond_t rfl ?_
  refine X.skip ?_
  refine X.seq ?_
  refine X.block ?_
  refine X.seq ?_
  refine X.region rfl ?_
  refine RL.move rfl ?_
  refine RL.move rfl ?_
  refine RL.indexAddr rfl sl66 rfl rfl (hA (by omega)) rfl (by omega) ?_
  refine RL.fieldAddr rfl fd93_1 rfl ?_
  refine RL.loadI rfl sc3 rfl (face_base_at hc hok hf) (by simp) ?_
  refine RL.assign rfl ?_
  refine RL.nil ?_
  refine X.seq ?_
  refine X.seq ?_
  refine X.region rfl ?_
  refine RL.move rfl ?_
  refine RL.cmp_s rfl rfl rfl rfl (fun h0 => ?_) (fun h0 => ?_)
  ·replace h0 : (_ : Int) = _ := h0
   refine RL.nil ?_
   refine X.cond_t rfl ?_
   refine X.seq ?_
   refine X.region rfl ?_
   refine RL.move rfl ?_
   refine RL.cmp_s rfl rfl rfl rfl (fun h1 => ?_) (fun h1 => ?_)
   ·replace h1 : (_ : Int) ≠ _ := h1
    refine RL.nil ?_
    refine X.cond_t rfl ?_
    refine X.seq ?_
    refine X.region rfl ?_
    refine RL.assign rfl ?_
    refine RL.nil ?_
    refine X.ret ?_
    refine ret1 rfl ?_
    show (_ : Value) = _
    rw [fcheckP_hit hl hf q2 (verF_bad (by unfold badBase; omega))]
   replace h1 : ¬ ((_ : Int) ≠ _) := h1
   have hb : ¬ badBase g f.base := by unfold badBase; omega
   refine RL.nil ?_
   refine X.cond_f rfl ?_
   refine X.skip ?_
   refine X.seq ?_
   refine X.region rfl ?_
   refine RL.assign rfl ?_
   refine RL.nil ?_
   refine X.block ?_
   refine X.loop (γ := Nat) (fun k ρ L => (k ≤ g) ∧ (∀ j h, j < k → fs[j]? = some h → h.id ≠ f.id) ∧ Has ρ [(0, .slice A fs.length c), (3, .int .i64 g), (5, .int .i64 k)] ∧ L = []) (fun k => g - k) (0) ⟨_, (by repeat (first | exact sb0 _ | exact sb1 _ | (rw [List.append_nil]; exact sb0 _) | exact sb2 _ _ | exact sb3 _ _ _ | apply sb4 | apply sb5 | apply sb6)), Nat.zero_le _, fun j h hj => absurd hj (Nat.not_lt_zero j), ⟨rfl, rfl, rfl, trivial⟩, rfl⟩ ?_
   rintro k _ _ ⟨r1, r2, hρ, rfl⟩
   obtain ⟨base, rfl⟩ := hρ.base
   clear hρ
   refine X.seq ?_
   refine X.seq ?_
   refine X.region rfl ?_
   refine RL.move rfl ?_
   refine RL.move rfl ?_
   refine RL.cmp_s rfl rfl rfl rfl (fun hk => ?_) (fun hk => ?_)
   ·replace hk : (_ : Int) < _ := hk
    obtain ⟨f2, hf2⟩ : ∃ f2, fs[k]? = some f2 := ⟨_, List.getElem?_eq_getElem (by omega)⟩
    have hfo2 := hok f2 (List.mem_of_getElem? hf2)
    refine RL.nil ?_
    refine X.cond_t rfl ?_
    refine X.skip ?_
    refine X.seq ?_
    refine X.block ?_
    refine X.seq ?_
    refine X.draw (by kernel_rfl) (by kernel_rfl) ?_
    refine RL.move rfl ?_
    refine RL.move rfl ?_
    refine RL.indexAddr rfl sl66 rfl rfl (hA (by omega)) rfl (by omega) ?_
    refine RL.fieldAddr rfl fd93_0 rfl ?_
    refine RL.loadIA rfl ag47 rfl (face_id_at hc hok hf2) (by simp) (gcells_length hfo2) ?_
    refine RL.move rfl ?_
    refine RL.move rfl ?_
    refine RL.indexAddr rfl sl66 rfl rfl (hA (by omega)) rfl (by omega) ?_
    refine RL.fieldAddr rfl fd93_0 rfl ?_
    refine RL.loadIA rfl ag47 rfl (face_id_at hc hok hf) (by simp) (gcells_length hfo) ?_
    refine RL.eqA rfl eqg_guid rfl rfl (eq_guid hfo2 hfo) (fun hh => ?_) (fun hh => ?_)
    ·skip
     refine RL.nil ?_
     refine X.cond_t rfl ?_
     refine X.seq ?_
     refine X.region rfl ?_
     refine RL.assign rfl ?_
     refine RL.nil ?_
     refine X.ret ?_
     refine ret1 rfl ?_
     show (_ : Value) = _
     rw [fcheckP_hit hl hf q2 (verF_twin hb (by omega) hf2 hh)]
    skip
    refine RL.nil ?_
    refine X.cond_f rfl ?_
    refine X.skip ?_
    refine X.blk ?_
    refine X.region rfl ?_
    refine RL.move rfl ?_
    refine RL.add rfl rfl rfl (by omega) ?_
    refine RL.assign rfl ?_
    refine RL.nil ?_
    refine X.hyp ⟨rfl, k + 1, by omega, _, (by repeat (first | exact sb0 _ | exact sb1 _ | (rw [List.append_nil]; exact sb0 _) | exact sb2 _ _ | exact sb3 _ _ _ | apply sb4 | apply sb5 | apply sb6)), by omega, fun j h hj hf3 => by
        rcases Nat.lt_succ_iff_lt_or_eq.1 hj with h3 | rfl
        · exact r2 j h h3 hf3
        · rw [hf2] at hf3; obtain rfl := Option.some.inj hf3; exact hh, ⟨rfl, rfl, rfl, trivial⟩, rfl⟩
   replace hk : ¬ ((_ : Int) < _) := hk
   refine RL.nil ?_
   refine X.cond_f rfl ?_
   refine X.exit rfl ?_
   refine X.blk ?_
   refine X.region rfl ?_
   refine RL.move rfl ?_
   refine RL.add rfl rfl rfl (by omega) ?_
   refine RL.assign rfl ?_
   refine RL.nil ?_
   refine X.hyp ⟨rfl, g + 1, by omega, _, (by repeat (first | exact sb0 _ | exact sb1 _ | (rw [List.append_nil]; exact sb0 _) | exact sb2 _ _ | exact sb3 _ _ _ | apply sb4 | apply sb5 | apply sb6)), by omega, fverI_next hf q2 (verF_fine hb (fun j h hj => r2 j h (by omega))), ⟨rfl, rfl, trivial⟩, rfl⟩
  replace h0 : ¬ ((_ : Int) = _) := h0
  refine RL.nil ?_
  refine X.cond_f rfl ?_
  refine X.seq ?_
  refine X.region rfl ?_
  refine RL.move rfl ?_
  refine RL.cmp_s rfl rfl rfl rfl (fun h1 => ?_) (fun h1 => ?_)
  ·replace h1 : (_ : Int) < _ := h1
   refine RL.move rfl ?_
   refine RL.skip rfl ?_
   refine RL.skip rfl ?_
   refine RL.skip rfl ?_
   refine RL.pick_t rfl rfl ?_
   refine RL.nil ?_
   refine X.cond_t rfl ?_
   refine X.seq ?_
   refine X.region rfl ?_
   refine RL.assign rfl ?_
   refine RL.nil ?_
   refine X.ret ?_
   refine ret1 rfl ?_
   show (_ : Value) = _
   rw [fcheckP_hit hl hf q2 (verF_bad (by unfold badBase; omega))]
  replace h1 : ¬ ((_ : Int) < _) := h1
  refine RL.move rfl ?_
  refine RL.move rfl ?_
  refine RL.move rfl ?_
  refine RL.cmp_s rfl rfl rfl rfl (fun h2 => ?_) (fun h2 => ?_)
  ·replace h2 : (_ : Int) ≥ _ := h2
   refine RL.pick_f rfl rfl ?_
   refine RL.nil ?_
   refine X.cond_t rfl ?_
   refine X.seq ?_
   refine X.region rfl ?_
   refine RL.assign rfl ?_
   refine RL.nil ?_
   refine X.ret ?_
   refine ret1 rfl ?_
   show (_ : Value) = _
   rw [fcheckP_hit hl hf q2 (verF_bad (by unfold badBase; omega))]
  replace h2 : ¬ ((_ : Int) ≥ _) := h2
  have hb : ¬ badBase g f.base := by unfold badBase; omega
  refine RL.pick_f rfl rfl ?_
  refine RL.nil ?_
  refine X.cond_f rfl ?_
  refine X.skip ?_
  refine X.seq ?_
  refine X.region rfl ?_
  refine RL.assign rfl ?_
  refine RL.nil ?_
  refine X.block ?_
  refine X.loop (γ := Nat) (fun k ρ L => (k ≤ g) ∧ (∀ j h, j < k → fs[j]? = some h → h.id ≠ f.id) ∧ Has ρ [(0, .slice A fs.length c), (3, .int .i64 g), (5, .int .i64 k)] ∧ L = []) (fun k => g - k) (0) ⟨_, (by repeat (first | exact sb0 _ | exact sb1 _ | (rw [List.append_nil]; exact sb0 _) | exact sb2 _ _ | exact sb3 _ _ _ | apply sb4 | apply sb5 | apply sb6)), Nat.zero_le _, fun j h hj => absurd hj (Nat.not_lt_zero j), ⟨rfl, rfl, rfl, trivial⟩, rfl⟩ ?_
  rintro k _ _ ⟨r1, r2, hρ, rfl⟩
  obtain ⟨base, rfl⟩ := hρ.base
  clear hρ
  refine X.seq ?_
  refine X.seq ?_
  refine X.region rfl ?_
  refine RL.move rfl ?_
  refine RL.move rfl ?_
  refine RL.cmp_s rfl rfl rfl rfl (fun hk => ?_) (fun hk => ?_)
  ·replace hk : (_ : Int) < _ := hk
   obtain ⟨f2, hf2⟩ : ∃ f2, fs[k]? = some f2 := ⟨_, List.getElem?_eq_getElem (by omega)⟩
   have hfo2 := hok f2 (List.mem_of_getElem? hf2)
   refine RL.nil ?_
   refine X.cond_t rfl ?_
   refine X.skip ?_
   refine X.seq ?_
   refine X.block ?_
   refine X.seq ?_
   refine X.draw (by kernel_rfl) (by kernel_rfl) ?_
   refine RL.move rfl ?_
   refine RL.move rfl ?_
   refine RL.indexAddr rfl sl66 rfl rfl (hA (by omega)) rfl (by omega) ?_
   refine RL.fieldAddr rfl fd93_0 rfl ?_
   refine RL.loadIA rfl ag47 rfl (face_id_at hc hok hf2) (by simp) (gcells_length hfo2) ?_
   refine RL.move rfl ?_
   refine RL.move rfl ?_
   refine RL.indexAddr rfl sl66 rfl rfl (hA (by omega)) rfl (by omega) ?_
   refine RL.fieldAddr rfl fd93_0 rfl ?_
   refine RL.loadIA rfl ag47 rfl (face_id_at hc hok hf) (by simp) (gcells_length hfo) ?_
   refine RL.eqA rfl eqg_guid rfl rfl (eq_guid hfo2 hfo) (fun hh => ?_) (fun hh => ?_)
   ·skip
    refine RL.nil ?_
    refine X.cond_t rfl ?_
    refine X.seq ?_
    refine X.region rfl ?_
    refine RL.assign rfl ?_
    refine RL.nil ?_
    refine X.ret ?_
    refine ret1 rfl ?_
    show (_ : Value) = _
    rw [fcheckP_hit hl hf q2 (verF_twin hb (by omega) hf2 hh)]
   skip
   refine RL.nil ?_
   refine X.cond_f rfl ?_
   refine X.skip ?_
   refine X.blk ?_
   refine X.region rfl ?_
   refine RL.move rfl ?_
   refine RL.add rfl rfl rfl (by omega) ?_
   refine RL.assign rfl ?_
   refine RL.nil ?_
   refine X.hyp ⟨rfl, k + 1, by omega, _, (by repeat (first | exact sb0 _ | exact sb1 _ | (rw [List.append_nil]; exact sb0 _) | exact sb2 _ _ | exact sb3 _ _ _ | apply sb4 | apply sb5 | apply sb6)), by omega, fun j h hj hf3 => by
       rcases Nat.lt_succ_iff_lt_or_eq.1 hj with h3 | rfl
       · exact r2 j h h3 hf3
       · rw [hf2] at hf3; obtain rfl := Option.some.inj hf3; exact hh, ⟨rfl, rfl, rfl, trivial⟩, rfl⟩
  replace hk : ¬ ((_ : Int) < _) := hk
  refine RL.nil ?_
  refine X.cond_f rfl ?_
  refine X.exit rfl ?_
  refine X.blk ?_
  refine X.region rfl ?_
  refine RL.move rfl ?_
  refine RL.add rfl rfl rfl (by omega) ?_
  refine RL.assign rfl ?_
  refine RL.nil ?_
  refine X.hyp ⟨rfl, g + 1, by omega, _, (by repeat (first | exact sb0 _ | exact sb1 _ | (rw [List.append_nil]; exact sb0 _) | exact sb2 _ _ | exact sb3 _ _ _ | apply sb4 | apply sb5 | apply sb6)), by omega, fverI_next hf q2 (verF_fine hb (fun j h hj => r2 j h (by omega))), ⟨rfl, rfl, trivial⟩, rfl⟩
 replace hg : ¬ ((_ : Int) < _) := hg
 refine RL.nil ?_
 refine X.cond_f rfl ?_
 refine X.exit rfl ?_
 refine X.seq ?_
 refine X.region rfl ?_
 refine RL.assign rfl ?_
 refine RL.nil ?_
 refine X.ret ?_
 refine ret1 rfl ?_
 show (_ : Value) = _
 rw [fcheckP_ok hl (fun j hj => q2 j (by omega))]
theorem f_fcheck (fs : List Face) (hok : ∀ f ∈ fs, FaceOk f) (hlen : fs.length ≤ 1000) (A : Option Addr) (c : Nat) (w : World) (hrd : Rd w A (fcells fs)) :
    Ctr Try.prog 52 [.slice A fs.length c] w [] fun v _ => v = .int .i64 (fcheckP fs) := by
 have hrd1 := hrd
 obtain ⟨bb, oo, hA0, hc⟩ := hrd
 have hA : 0 < fs.length → A = some ⟨bb, oo, none⟩ := fun h => hA0 (by rw [fcells_len hok]; omega)
 refine Ctr.intro0 (n := 59) Try.func52 rfl Try.ntmps52 (Nat.le_of_ble_eq_true rfl) ?_
 refine X.seq ?_
 refine X.region rfl ?_
 refine RL.assign rfl ?_
 refine RL.nil ?_
 refine X.seq ?_
 refine X.seq ?_
 refine X.region rfl ?_
 refine RL.move rfl ?_
 refine RL.len rfl sl66 rfl ?_
 refine RL.cmp_s rfl rfl rfl rfl (fun h => ?_) (fun h => ?_)
 ·replace h : (_ : Int) < _ := h
  refine RL.move rfl ?_
  refine RL.skip rfl ?_
  refine RL.skip rfl ?_
  refine RL.skip rfl ?_
  refine RL.pick_t rfl rfl ?_
  refine RL.nil ?_
  refine X.cond_t rfl ?_
  refine X.seq ?_
  refine X.region rfl ?_
  refine RL.assign rfl ?_
  refine RL.nil ?_
  refine X.ret ?_
  refine ret1 rfl ?_
  show (_ : Value) = _
  rw [fcheckP_len (.inl (by omega))]
 replace h : ¬ ((_ : Int) < _) := h
 refine RL.move rfl ?_
 refine RL.move rfl ?_
 refine RL.len rfl sl66 rfl ?_
 refine RL.cmp_s rfl rfl rfl rfl (fun h2 => ?_) (fun h2 => ?_)
 ·replace h2 : (_ : Int) > _ := h2
  refine RL.pick_f rfl rfl ?_
  refine RL.nil ?_
  refine X.cond_t rfl ?_
  refine X.seq ?_
  refine X.region rfl ?_
  refine RL.assign rfl ?_
  refine RL.nil ?_
  refine X.ret ?_
  refine ret1 rfl ?_
  show (_ : Value) = _
  rw [fcheckP_len (.inr (by omega))]
 replace h2 : ¬ ((_ : Int) > _) := h2
 have hl : ¬ (fs.length < 1 ∨ 16 < fs.length) := by omega
 refine RL.pick_f rfl rfl ?_
 refine RL.nil ?_
 refine X.cond_f rfl ?_
 refine X.skip ?_
 refine X.seq ?_
 refine X.seq ?_
 refine X.region rfl ?_
 refine RL.move rfl ?_
 refine RL.len rfl sl66 rfl ?_
 refine RL.move rfl ?_
 refine RL.nil ?_
 refine X.block ?_
 refine X.loop (γ := Nat) (fun g ρ L => (g ≤ fs.length) ∧ (∀ j, j < g → fverI fs j = none) ∧ Has ρ [(0, .slice A fs.length c), (15, .slice A fs.length c), (16, .int .i64 fs.length), (17, .int .i64 g)] ∧ L = []) (fun g => fs.length - g) (0) ⟨_, (by repeat (first | exact sb0 _ | exact sb1 _ | (rw [List.append_nil]; exact sb0 _) | exact sb2 _ _ | exact sb3 _ _ _ | apply sb4 | apply sb5 | apply sb6)), Nat.zero_le _, fun j hj => absurd hj (Nat.not_lt_zero j), ⟨rfl, rfl, rfl, rfl, trivial⟩, rfl⟩ ?_
 rintro g _ _ ⟨q1, q2, hρ, rfl⟩
 obtain ⟨base, rfl⟩ := hρ.base
 clear hρ
 refine X.seq ?_
 refine X.region rfl ?_
 refine RL.cmp_s rfl rfl rfl rfl (fun hg => ?_) (fun hg => ?_)
 ·replace hg : (_ : Int) < _ := hg
  obtain ⟨f, hf⟩ : ∃ f, fs[g]? = some f := ⟨_, List.getElem?_eq_getElem (by omega)⟩
  have hfo := hok f (List.mem_of_getElem? hf)
  refine RL.nil ?_
  refine X.seq ?_
  refine X.cond_t rfl ?_
  refine X.skip ?_
  refine X.seq ?_
  refine X.block ?_
  refine X.seq ?_
  refine X.region rfl ?_
  refine RL.move rfl ?_
  refine RL.indexAddr rfl sl66 rfl rfl (hA (by omega)) rfl (by omega) ?_
  refine RL.loadIA rfl ag93 rfl (face_at hc hok hf) (by simp) (Face.len hfo) ?_
  refine RL.alloc rfl rfl zt93 ?_
  intro b1 hb1
  dsimp only at hb1
  refine RL.assign rfl ?_
  refine RL.stA rfl rfl ag93.size rfl rfl (Face.len hfo) rfl (face_one f) ?_
  refine RL.nil ?_
  refine X.seq ?_
  refine X.seq ?_
  refine X.region rfl ?_
  refine RL.move rfl ?_
  refine RL.cmp_s rfl rfl rfl rfl (fun h0 => ?_) (fun h0 => ?_)
  ·replace h0 : (_ : Int) = _ := h0
   refine RL.move rfl ?_
   refine RL.fieldAddr rfl fd93_1 rfl ?_
   refine RL.loadO rfl sc3 rfl (Face.basecell hfo) ?_
   refine RL.cmp_s rfl rfl rfl rfl (fun h1 => ?_) (fun h1 => ?_)
   ·replace h1 : (_ : Int) ≠ _ := h1
    refine RL.pick_t rfl rfl ?_
    refine RL.move rfl ?_
    refine RL.skip rfl ?_
    refine RL.skip rfl ?_
    refine RL.skip rfl ?_
    refine RL.skip rfl ?_
    refine RL.skip rfl ?_
    refine RL.skip rfl ?_
    refine RL.skip rfl ?_
    refine RL.skip rfl ?_
    refine RL.skip rfl ?_
    refine RL.skip rfl ?_
    refine RL.skip rfl ?_
    refine RL.skip rfl ?_
    refine RL.skip rfl ?_
    refine RL.pick_t rfl rfl ?_
    refine RL.nil ?_
    refine X.cond_t rfl ?_
    refine X.seq ?_
    refine X.region rfl ?_
    refine RL.assign rfl ?_
    refine RL.nil ?_
    refine X.ret ?_
    refine ret1 rfl ?_
    show (_ : Value) = _
    rw [fcheckP_hit hl hf q2 (verF_bad (by unfold badBase; omega))]
   replace h1 : ¬ ((_ : Int) ≠ _) := h1
   refine RL.pick_t rfl rfl ?_
   refine RL.move rfl ?_
   refine RL.move rfl ?_
   refine RL.cmp_f rfl rfl rfl rfl (by show ¬ ((_ : Int) > _); omega) ?_
   refine RL.move rfl ?_
   refine RL.skip rfl ?_
   refine RL.skip rfl ?_
   refine RL.skip rfl ?_
   refine RL.skip rfl ?_
   refine RL.skip rfl ?_
   refine RL.skip rfl ?_
   refine RL.skip rfl ?_
   refine RL.skip rfl ?_
   refine RL.skip rfl ?_
   refine RL.pick_f rfl rfl ?_
   refine RL.pick_f rfl rfl ?_
   refine RL.nil ?_
   refine X.cond_f rfl ?_
   refine X.skip ?_
   refine X.seq ?_
   refine X.region rfl ?_
   refine RL.move rfl ?_
   refine RL.fieldAddr rfl fd93_0 rfl ?_
   have hb : ¬ badBase g f.base := by unfold badBase; omega
   obtain ⟨k, hk1, hk2, hk3, hk4⟩ := findP_self hf
   refine RL.loadOA rfl ag47 rfl (Face.idcells hfo) (gcells_length hfo) ?_
   refine RL.fn0 rfl rfl rfl en58 (fun w hw => (f_ffind fs hok hlen A c w (hrd1.st0 hw) f.id hfo).mono (fun v L h => (by rw [hk1] at h; exact h : v = .tuple #[.int .i64 k, .int .i64 0]))) rfl ?_
   rintro _ _ rfl
   refine RL.move rfl ?_
   refine RL.extract rfl rfl rfl ?_
   refine RL.extract rfl rfl rfl ?_
   refine RL.assign rfl ?_
   refine RL.assign rfl ?_
   refine RL.nil ?_
   refine X.seq ?_
   refine X.region rfl ?_
   refine RL.move rfl ?_
   refine RL.cmp_f rfl rfl rfl rfl (by show ¬ ((_ : Int) ≠ _); exact fun h => h rfl) ?_
   refine RL.move rfl ?_
   refine RL.move rfl ?_
   refine RL.move rfl ?_
   refine RL.cmp_s rfl rfl rfl rfl (fun hk => ?_) (fun hk => ?_)
   ·replace hk : (_ : Int) < _ := hk
    refine RL.pick_f rfl rfl ?_
    refine RL.nil ?_
    refine X.cond_t rfl ?_
    refine X.seq ?_
    refine X.region rfl ?_
    refine RL.assign rfl ?_
    refine RL.nil ?_
    refine X.ret ?_
    obtain ⟨h3, hh3, he3⟩ := hk3 (by omega)
    refine ret1 rfl ?_
    show (_ : Value) = _
    rw [fcheckP_hit hl hf q2 (verF_twin hb (by omega) hh3 he3)]
   replace hk : ¬ ((_ : Int) < _) := hk
   refine RL.pick_f rfl rfl ?_
   refine RL.nil ?_
   refine X.cond_f rfl ?_
   refine X.skip ?_
   refine X.blk ?_
   refine X.region rfl ?_
   refine RL.add rfl rfl rfl (by omega) ?_
   refine RL.move rfl ?_
   refine RL.nil ?_
   refine X.hyp ⟨rfl, g + 1, by omega, _, (by repeat (first | exact sb0 _ | exact sb1 _ | (rw [List.append_nil]; exact sb0 _) | exact sb2 _ _ | exact sb3 _ _ _ | apply sb4 | apply sb5 | apply sb6)), by omega, fverI_next hf q2 (verF_fine hb (hk4 (by omega))), ⟨rfl, rfl, rfl, rfl, trivial⟩, rfl⟩
  replace h0 : ¬ ((_ : Int) = _) := h0
  refine RL.move rfl ?_
  refine RL.skip rfl ?_
  refine RL.skip rfl ?_
  refine RL.skip rfl ?_
  refine RL.pick_f rfl rfl ?_
  refine RL.move rfl ?_
  refine RL.move rfl ?_
  refine RL.cmp_t rfl rfl rfl rfl (by show ((_ : Int) > _); omega) ?_
  refine RL.move rfl ?_
  refine RL.fieldAddr rfl fd93_1 rfl ?_
  refine RL.loadO rfl sc3 rfl (Face.basecell hfo) ?_
  refine RL.cmp_s rfl rfl rfl rfl (fun h1 => ?_) (fun h1 => ?_)
  ·replace h1 : (_ : Int) < _ := h1
   refine RL.move rfl ?_
   refine RL.skip rfl ?_
   refine RL.skip rfl ?_
   refine RL.skip rfl ?_
   refine RL.skip rfl ?_
   refine RL.pick_t rfl rfl ?_
   refine RL.pick_t rfl rfl ?_
   refine RL.pick_f rfl rfl ?_
   refine RL.nil ?_
   refine X.cond_t rfl ?_
   refine X.seq ?_
   refine X.region rfl ?_
   refine RL.assign rfl ?_
   refine RL.nil ?_
   refine X.ret ?_
   refine ret1 rfl ?_
   show (_ : Value) = _
   rw [fcheckP_hit hl hf q2 (verF_bad (by unfold badBase; omega))]
  replace h1 : ¬ ((_ : Int) < _) := h1
  refine RL.move rfl ?_
  refine RL.fieldAddr rfl fd93_1 rfl ?_
  refine RL.loadO rfl sc3 rfl (Face.basecell hfo) ?_
  refine RL.move rfl ?_
  refine RL.cmp_s rfl rfl rfl rfl (fun h2 => ?_) (fun h2 => ?_)
  ·replace h2 : (_ : Int) ≥ _ := h2
   refine RL.pick_f rfl rfl ?_
   refine RL.pick_t rfl rfl ?_
   refine RL.pick_f rfl rfl ?_
   refine RL.nil ?_
   refine X.cond_t rfl ?_
   refine X.seq ?_
   refine X.region rfl ?_
   refine RL.assign rfl ?_
   refine RL.nil ?_
   refine X.ret ?_
   refine ret1 rfl ?_
   show (_ : Value) = _
   rw [fcheckP_hit hl hf q2 (verF_bad (by unfold badBase; omega))]
  replace h2 : ¬ ((_ : Int) ≥ _) := h2
  have hb : ¬ badBase g f.base := by unfold badBase; omega
  obtain ⟨k, hk1, hk2, hk3, hk4⟩ := findP_self hf
  refine RL.pick_f rfl rfl ?_
  refine RL.pick_t rfl rfl ?_
  refine RL.pick_f rfl rfl ?_
  refine RL.nil ?_
  refine X.cond_f rfl ?_
  refine X.skip ?_
  refine X.seq ?_
  refine X.region rfl ?_
  refine RL.move rfl ?_
  refine RL.fieldAddr rfl fd93_0 rfl ?_
  refine RL.loadOA rfl ag47 rfl (Face.idcells hfo) (gcells_length hfo) ?_
  refine RL.fn0 rfl rfl rfl en58 (fun w hw => (f_ffind fs hok hlen A c w (hrd1.st0 hw) f.id hfo).mono (fun v L h => (by rw [hk1] at h; exact h : v = .tuple #[.int .i64 k, .int .i64 0]))) rfl ?_
  rintro _ _ rfl
  refine RL.move rfl ?_
  refine RL.extract rfl rfl rfl ?_
  refine RL.extract rfl rfl rfl ?_
  refine RL.assign rfl ?_
  refine RL.assign rfl ?_
  refine RL.nil ?_
  refine X.seq ?_
  refine X.region rfl ?_
  refine RL.move rfl ?_
  refine RL.cmp_f rfl rfl rfl rfl (by show ¬ ((_ : Int) ≠ _); exact fun h => h rfl) ?_
  refine RL.move rfl ?_
  refine RL.move rfl ?_
  refine RL.move rfl ?_
  refine RL.cmp_s rfl rfl rfl rfl (fun hk => ?_) (fun hk => ?_)
  ·replace hk : (_ : Int) < _ := hk
   refine RL.pick_f rfl rfl ?_
   refine RL.nil ?_
   refine X.cond_t rfl ?_
   refine X.seq ?_
   refine X.region rfl ?_
   refine RL.assign rfl ?_
   refine RL.nil ?_
   refine X.ret ?_
   obtain ⟨h3, hh3, he3⟩ := hk3 (by omega)
   refine ret1 rfl ?_
   show (_ : Value) = _
   rw [fcheckP_hit hl hf q2 (verF_twin hb (by omega) hh3 he3)]
  replace hk : ¬ ((_ : Int) < _) := hk
  refine RL.pick_f rfl rfl ?_
  refine RL.nil ?_
  refine X.cond_f rfl ?_
  refine X.skip ?_
  refine X.blk ?_
  refine X.region rfl ?_
  refine RL.add rfl rfl rfl (by omega) ?_
  refine RL.move rfl ?_
  refine RL.nil ?_
  refine X.hyp ⟨rfl, g + 1, by omega, _, (by repeat (first | exact sb0 _ | exact sb1 _ | (rw [List.append_nil]; exact sb0 _) | exact sb2 _ _ | exact sb3 _ _ _ | apply sb4 | apply sb5 | apply sb6)), by omega, fverI_next hf q2 (verF_fine hb (hk4 (by omega))), ⟨rfl, rfl, rfl, rfl, trivial⟩, rfl⟩
 replace hg : ¬ ((_ : Int) < _) := hg
 refine RL.nil ?_
 refine X.seq ?_
 refine X.cond_f rfl ?_
 refine X.exit rfl ?_
 refine X.seq ?_
 refine X.region rfl ?_
 refine RL.assign rfl ?_
 refine RL.nil ?_
 refine X.ret ?_
 refine ret1 rfl ?_
 show (_ : Value) = _
 rw [fcheckP_ok hl (fun j hj => q2 j (by omega))]
end Go.Proofs.Ytnebpklmbefmfaa

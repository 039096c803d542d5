/- Find of registries. -/
import Derived.Test.YtnebpklmbefmfaaR1
import Derived.Test.YtnebpklmbefmfaaNew
import Derived.Test.YtnebpklmbefmfaaC1
set_option linter.unusedVariables false
set_option linter.unusedSimpArgs false
namespace Go.Proofs.Ytnebpklmbefmfaa
open Go.RowKit
attribute [local irreducible] X RL W Ctr
theorem f_rfind (ms : List (List Cl)) (hsz : MsSz ms) (hm4 : ms.length ≤ 1000) (id : List Int) (hi : id.length = 16) (rb : Nat) (delay : Int) (xs : List Ms) (ss : List Mv) (w : World) (h : RegR w rb delay xs ss) (hst : StaM w xs ms) : Ctr Try.prog 18 [.pointer (some ⟨rb, 0, none⟩), .agg (gcells id).toArray] w [] fun v _ => v = (match rfindP ms id with | some p => .tuple #[.int .i64 ((p.1 : Nat) : Int), .int .i64 ((p.2 : Nat) : Int), .int .i64 0] | none => .tuple #[.int .i64 0, .int .i64 0, .int .i64 8]) := by
 obtain ⟨A, cp, h1, bb, oo, hA0, h2⟩ := h.reg
 rw [ptrs_length] at hA0
 have hlx := hst.len
 have hls := h.len
 refine Ctr.intro0 (n := 37) Try.func18 rfl Try.ntmps18 (Nat.le_of_ble_eq_true rfl) ?_
 refine X.seq ?_
 refine X.region rfl ?_
 refine RL.boxA rfl rfl rfl ?_
 intro b3 hb3
 dsimp only at hb3
 refine RL.assign rfl ?_
 refine RL.assign rfl ?_
 refine RL.assign rfl ?_
 refine RL.nil ?_
 refine X.seq ?_
 refine X.seq ?_
 refine X.region rfl ?_
 refine RL.move rfl ?_
 refine RL.eqP rfl Try.underlying24 rfl rfl rfl ?_
 refine RL.nil ?_
 refine X.cond_f rfl ?_
 refine X.skip ?_
 refine X.seq ?_
 refine X.seq ?_
 refine X.region rfl ?_
 refine RL.move rfl ?_
 refine RL.nilCheck rfl rfl ?_
 refine RL.fieldAddr rfl fd83_0 rfl ?_
 refine RL.loadI rfl sc81 rfl (h1 0 _ rfl) (by simp) ?_
 refine RL.len rfl sl81 rfl ?_
 refine RL.move rfl ?_
 refine RL.nil ?_
 refine X.block ?_
 refine X.loop (γ := Nat) (fun g ρ L => (g ≤ ms.length) ∧ (∀ (j : Nat) m, j < g → ms[j]? = some m → mfindP m id = none) ∧ Has ρ [(3, .pointer (some ⟨b3, 0, none⟩)), (16, .slice A xs.length cp), (17, .int .i64 xs.length), (18, .int .i64 g)] ∧ L = [(b3, cel 47 (gcells id))]) (fun g => ms.length - g) (0) ⟨_, (by repeat (first | exact sb0 _ | exact sb1 _ | (rw [List.append_nil]; exact sb0 _) | exact sb2 _ _ | exact sb3 _ _ _ | apply sb4 | apply sb5 | apply sb6)), Nat.zero_le _, fun j m hj => absurd hj (Nat.not_lt_zero j), ⟨rfl, rfl, rfl, rfl, trivial⟩, rfl⟩ ?_
 rintro g _ _ ⟨hg0, hq, hρ, rfl⟩
 obtain ⟨base, rfl⟩ := hρ.base
 clear hρ
 refine X.seq ?_
 refine X.region rfl ?_
 refine RL.cmp_s rfl rfl rfl rfl (fun hg => ?_) (fun hg => ?_)
 ·replace hg : (_ : Int) < _ := hg
  obtain ⟨x, hx⟩ : ∃ x, xs[g]? = some x := ⟨_, List.getElem?_eq_getElem (by omega)⟩
  obtain ⟨s, hs⟩ : ∃ s, ss[g]? = some s := ⟨_, List.getElem?_eq_getElem (by omega)⟩
  obtain ⟨m, hm⟩ : ∃ m, ms[g]? = some m := ⟨_, List.getElem?_eq_getElem (by omega)⟩
  obtain ⟨Af, cf, Am, cm, -, -, -, -, hvm, hmr⟩ := hst.get g x m hx hm
  obtain ⟨hml, hmz⟩ := hsz.get hm
  have hc := h.mods g x s hx hs
  have hc1 : CellsAt w x.b (0 + 1) [.slice Am m.length cm] := by rw [← hvm]; exact hc.sub 1 1
  refine RL.nil ?_
  refine X.seq ?_
  refine X.cond_t rfl ?_
  refine X.skip ?_
  refine X.seq ?_
  refine X.block ?_
  refine X.seq ?_
  refine X.region rfl ?_
  refine RL.move rfl ?_
  refine RL.indexAddr rfl sl81 rfl rfl (hA0 (by omega)) rfl (by omega) ?_
  refine RL.loadI rfl sc89 rfl (by rw [Nat.mul_one]; exact h2 g _ (ptrs_get hx)) (by simp) ?_
  refine RL.assign rfl ?_
  refine RL.assign rfl ?_
  refine RL.nil ?_
  refine X.seq ?_
  cases hk : mfindP m id
  ·refine X.draw (by kernel_rfl) (by kernel_rfl) ?_
   refine RL.move rfl ?_
   refine RL.nilCheck rfl rfl ?_
   refine RL.fieldAddr rfl fd91_1 rfl ?_
   refine RL.loadIA rfl ag30 rfl hc1 (by simp) rfl ?_
   refine RL.loadOA rfl ag47 rfl (take_all (gcells_length hi)) (gcells_length hi) ?_
   refine RL.fnQ (v := .tuple #[.int .i64 0, .int .i64 8]) rfl rfl en34 (fun w1 hw1 => (f_mfind m hmz hml Am cm w1 (hmr.st0 hw1) id hi).mono fun v L h => (by rw [h, hk])) rfl ?_
   refine RL.move rfl ?_
   refine RL.extract rfl rfl rfl ?_
   refine RL.extract rfl rfl rfl ?_
   refine RL.assign rfl ?_
   refine RL.assign rfl ?_
   refine RL.nil ?_
   refine X.seq ?_
   refine X.region rfl ?_
   refine RL.move rfl ?_
   refine RL.cmp_f rfl rfl rfl rfl (by show ¬ ((_ : Int) = _); decide) ?_
   refine RL.nil ?_
   refine X.cond_f rfl ?_
   refine X.skip ?_
   refine X.blk ?_
   refine X.region rfl ?_
   refine RL.add rfl rfl rfl (by omega) ?_
   refine RL.move rfl ?_
   refine RL.nil ?_
   refine X.hyp ⟨rfl, g + 1, by omega, _, (by repeat (first | exact sb0 _ | exact sb1 _ | (rw [List.append_nil]; exact sb0 _) | exact sb2 _ _ | exact sb3 _ _ _ | apply sb4 | apply sb5 | apply sb6)), by omega, fun j m2 hj hm2 => by
       rcases Nat.lt_succ_iff_lt_or_eq.1 hj with h3 | rfl
       · exact hq j m2 h3 hm2
       · rw [hm] at hm2; obtain rfl := Option.some.inj hm2; exact hk, ⟨rfl, rfl, rfl, rfl, trivial⟩, rfl⟩
  rename_i k
  refine X.draw (by kernel_rfl) (by kernel_rfl) ?_
  refine RL.move rfl ?_
  refine RL.nilCheck rfl rfl ?_
  refine RL.fieldAddr rfl fd91_1 rfl ?_
  refine RL.loadIA rfl ag30 rfl hc1 (by simp) rfl ?_
  refine RL.loadOA rfl ag47 rfl (take_all (gcells_length hi)) (gcells_length hi) ?_
  refine RL.fnQ (v := .tuple #[.int .i64 ((k : Nat) : Int), .int .i64 0]) rfl rfl en34 (fun w1 hw1 => (f_mfind m hmz hml Am cm w1 (hmr.st0 hw1) id hi).mono fun v L h => (by rw [h, hk])) rfl ?_
  refine RL.move rfl ?_
  refine RL.extract rfl rfl rfl ?_
  refine RL.extract rfl rfl rfl ?_
  refine RL.assign rfl ?_
  refine RL.assign rfl ?_
  refine RL.nil ?_
  refine X.seq ?_
  refine X.region rfl ?_
  refine RL.move rfl ?_
  refine RL.cmp_t rfl rfl rfl rfl (by show ((_ : Int) = _); rfl) ?_
  refine RL.nil ?_
  refine X.cond_t rfl ?_
  refine X.seq ?_
  refine X.region rfl ?_
  refine RL.move rfl ?_
  refine RL.move rfl ?_
  refine RL.assign rfl ?_
  refine RL.assign rfl ?_
  refine RL.assign rfl ?_
  refine RL.nil ?_
  refine X.ret ?_
  refine ret3 rfl ?_
  show (_ : Value) = _
  rw [rfindP_some hm hq hk]
 replace hg : ¬ ((_ : Int) < _) := hg
 refine RL.nil ?_
 refine X.seq ?_
 refine X.cond_f rfl ?_
 refine X.exit rfl ?_
 refine X.seq ?_
 refine X.region rfl ?_
 refine RL.assign rfl ?_
 refine RL.assign rfl ?_
 refine RL.assign rfl ?_
 refine RL.nil ?_
 refine X.ret ?_
 refine ret3 rfl ?_
 show (_ : Value) = _
 rw [rfindP_none (fun j m hm => hq j m (by have := (List.getElem?_eq_some_iff.1 hm).1; omega) hm)]
theorem f_rfind0 (id : List Int) (w : World) : Ctr Try.prog 18 [.pointer none, .agg (gcells id).toArray] w [] fun v _ => v = .tuple #[.int .i64 0, .int .i64 0, .int .i64 8] := by
 refine Ctr.intro0 (n := 37) Try.func18 rfl Try.ntmps18 (Nat.le_of_ble_eq_true rfl) ?_
 refine X.seq ?_
 refine X.region rfl ?_
 refine RL.boxA rfl rfl rfl ?_
 intro b3 hb3
 dsimp only at hb3
 refine RL.assign rfl ?_
 refine RL.assign rfl ?_
 refine RL.assign rfl ?_
 refine RL.nil ?_
 refine X.seq ?_
 refine X.seq ?_
 refine X.region rfl ?_
 refine RL.move rfl ?_
 refine RL.eqP rfl Try.underlying24 rfl rfl rfl ?_
 refine RL.nil ?_
 refine X.cond_t rfl ?_
 refine X.seq ?_
 refine X.region rfl ?_
 refine RL.assign rfl ?_
 refine RL.assign rfl ?_
 refine RL.assign rfl ?_
 refine RL.nil ?_
 refine X.ret ?_
 exact ret3 rfl rfl
theorem f_xfind (ms : List (List Cl)) (hsz : MsSz ms) (hm4 : ms.length ≤ 1000) (id : List Int) (hi : id.length = 16) (xb : Nat) (delay : Int) (vs : List Value) (ss : List Mv) (w : World) (h : RefR w xb delay vs ss) (hst : StaV w vs ms) : Ctr Try.prog 26 [.pointer (some ⟨xb, 0, none⟩), .agg (gcells id).toArray] w [] fun v _ => v = (match rfindP ms id with | some p => .tuple #[.int .i64 ((p.1 : Nat) : Int), .int .i64 ((p.2 : Nat) : Int)] | none => .tuple #[.int .i64 (-1), .int .i64 0]) := by
 obtain ⟨A, cp, h1, bb, oo, hA0, h2⟩ := h.reg
 have hls := h.len
 rw [rcells_len hls] at hA0
 have hlx := hst.len
 refine Ctr.intro0 (n := 31) Try.func26 rfl Try.ntmps26 (Nat.le_of_ble_eq_true rfl) ?_
 refine X.seq ?_
 refine X.region rfl ?_
 refine RL.boxA rfl rfl rfl ?_
 intro b3 hb3
 dsimp only at hb3
 refine RL.assign rfl ?_
 refine RL.assign rfl ?_
 refine RL.nil ?_
 refine X.seq ?_
 refine X.seq ?_
 refine X.region rfl ?_
 refine RL.assign rfl ?_
 refine RL.nil ?_
 refine X.block ?_
 refine X.loop (γ := Nat) (fun g ρ L => (g ≤ ms.length) ∧ (∀ (j : Nat) m, j < g → ms[j]? = some m → mfindP m id = none) ∧ Has ρ [(0, .pointer (some ⟨xb, 0, none⟩)), (3, .pointer (some ⟨b3, 0, none⟩)), (6, .int .i64 g)] ∧ L = [(b3, cel 47 (gcells id))]) (fun g => ms.length - g) (0) ⟨_, (by repeat (first | exact sb0 _ | exact sb1 _ | (rw [List.append_nil]; exact sb0 _) | exact sb2 _ _ | exact sb3 _ _ _ | apply sb4 | apply sb5 | apply sb6)), Nat.zero_le _, fun j m hj => absurd hj (Nat.not_lt_zero j), ⟨rfl, rfl, rfl, trivial⟩, rfl⟩ ?_
 rintro g _ _ ⟨hg0, hq, hρ, rfl⟩
 obtain ⟨base, rfl⟩ := hρ.base
 clear hρ
 refine X.seq ?_
 refine X.seq ?_
 refine X.region rfl ?_
 refine RL.move rfl ?_
 refine RL.move rfl ?_
 refine RL.nilCheck rfl rfl ?_
 refine RL.fieldAddr rfl fd61_0 rfl ?_
 refine RL.loadI rfl sc59 rfl (h1 0 _ rfl) (by simp) ?_
 refine RL.len rfl sl59 rfl ?_
 refine RL.cmp_s rfl rfl rfl rfl (fun hg => ?_) (fun hg => ?_)
 ·replace hg : (_ : Int) < _ := hg
  obtain ⟨s, hs⟩ : ∃ s, ss[g]? = some s := ⟨_, List.getElem?_eq_getElem (by omega)⟩
  obtain ⟨m, hm⟩ : ∃ m, ms[g]? = some m := ⟨_, List.getElem?_eq_getElem (by omega)⟩
  obtain ⟨Am, cm, hv, hmr⟩ := hst.get g m hm
  obtain ⟨hml, hmz⟩ := hsz.get hm
  have hc1 : CellsAt w bb (oo + g * 6 + 0) [.slice Am m.length cm] := fun j u hu => by
    match j, hu with
    | 0, hu => obtain rfl := Option.some.inj hu; exact rcells_cell h2 hv hs (by decide) rfl
  refine RL.nil ?_
  refine X.cond_t rfl ?_
  refine X.skip ?_
  refine X.seq ?_
  refine X.block ?_
  refine X.seq ?_
  refine X.draw (by kernel_rfl) (by kernel_rfl) ?_
  refine RL.move rfl ?_
  refine RL.nilCheck rfl rfl ?_
  refine RL.fieldAddr rfl fd61_0 rfl ?_
  refine RL.loadI rfl sc59 rfl (h1 0 _ rfl) (by simp) ?_
  refine RL.move rfl ?_
  refine RL.indexAddr rfl sl59 rfl rfl (hA0 (by omega)) rfl (by omega) ?_
  refine RL.fieldAddr rfl fd58_0 rfl ?_
  refine RL.loadIA rfl ag30 rfl hc1 (by simp) rfl ?_
  refine RL.loadOA rfl ag47 rfl (take_all (gcells_length hi)) (gcells_length hi) ?_
  cases hk : mfindP m id
  ·refine RL.fnQ (v := .int .i64 (-1)) rfl rfl en36 (fun w1 hw1 => (f_rmfind m hmz hml Am cm w1 (hmr.st0 hw1) id hi).mono fun v L h => (by rw [h, hk])) rfl ?_
   refine RL.assign rfl ?_
   refine RL.nil ?_
   refine X.seq ?_
   refine X.region rfl ?_
   refine RL.move rfl ?_
   refine RL.cmp_f rfl rfl rfl rfl (by show ¬ ((_ : Int) ≥ _); decide) ?_
   refine RL.nil ?_
   refine X.cond_f rfl ?_
   refine X.skip ?_
   refine X.blk ?_
   refine X.region rfl ?_
   refine RL.move rfl ?_
   refine RL.add rfl rfl rfl (by omega) ?_
   refine RL.assign rfl ?_
   refine RL.nil ?_
   refine X.hyp ⟨rfl, g + 1, by omega, _, (by repeat (first | exact sb0 _ | exact sb1 _ | (rw [List.append_nil]; exact sb0 _) | exact sb2 _ _ | exact sb3 _ _ _ | apply sb4 | apply sb5 | apply sb6)), by omega, fun j m2 hj hm2 => by
       rcases Nat.lt_succ_iff_lt_or_eq.1 hj with h3 | rfl
       · exact hq j m2 h3 hm2
       · rw [hm] at hm2; obtain rfl := Option.some.inj hm2; exact hk, ⟨rfl, rfl, rfl, trivial⟩, rfl⟩
  rename_i k
  refine RL.fnQ (v := .int .i64 ((k : Nat) : Int)) rfl rfl en36 (fun w1 hw1 => (f_rmfind m hmz hml Am cm w1 (hmr.st0 hw1) id hi).mono fun v L h => (by rw [h, hk])) rfl ?_
  refine RL.assign rfl ?_
  refine RL.nil ?_
  refine X.seq ?_
  refine X.region rfl ?_
  refine RL.move rfl ?_
  refine RL.cmp_t rfl rfl rfl rfl (by show ((_ : Int) ≥ _); omega) ?_
  refine RL.nil ?_
  refine X.cond_t rfl ?_
  refine X.seq ?_
  refine X.region rfl ?_
  refine RL.move rfl ?_
  refine RL.move rfl ?_
  refine RL.assign rfl ?_
  refine RL.assign rfl ?_
  refine RL.nil ?_
  refine X.ret ?_
  refine ret2 rfl ?_
  show (_ : Value) = _
  rw [rfindP_some hm hq hk]
 replace hg : ¬ ((_ : Int) < _) := hg
 refine RL.nil ?_
 refine X.cond_f rfl ?_
 refine X.exit rfl ?_
 refine X.seq ?_
 refine X.region rfl ?_
 refine RL.assign rfl ?_
 refine RL.assign rfl ?_
 refine RL.nil ?_
 refine X.ret ?_
 refine ret2 rfl ?_
 show (_ : Value) = _
 rw [rfindP_none (fun j m hm => hq j m (by have := (List.getElem?_eq_some_iff.1 hm).1; omega) hm)]
end Go.Proofs.Ytnebpklmbefmfaa

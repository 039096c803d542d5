/- Classes found; modules judged, twice told. -/
import Derived.Test.YtdnnnbjmjjdcfaaC1
set_option linter.unusedVariables false
set_option linter.unusedSimpArgs false
namespace Go.Proofs.Ytdnnnbjmjjdcfaa
open Go.RowKit
attribute [local irreducible] X RL W Ctr
theorem f_find1 (cl : Cl) (cs : List Value) (id : List Int) (hi : id.length = 16) (b3 : Nat) (w : World) (hcl : ClR w cl cs) (h3 : w.heap[b3]? = some (cel 34 (gcells id))) :
    Ctr Try.prog 39 [.agg cs.toArray, .pointer (some ⟨b3, 0, none⟩)] w [] fun v _ => v = .bool (decide (cl.id = id)) := by
 obtain ⟨hid, hfo, Af, cf, Am, cm, ms, rfl, hrf, hrm, hms⟩ := hcl
 have e3 : CellsAt w b3 0 (gcells id) := fun j v hv => by rw [cell_entry h3]; simpa using hv
 refine Ctr.intro0 (n := 8) Try.func39 rfl Try.ntmps39 (Nat.le_of_ble_eq_true rfl) ?_
 refine X.seq ?_
 refine X.region rfl ?_
 refine RL.boxA rfl rfl rfl ?_
 intro b1 hb1
 dsimp only at hb1
 refine RL.assign rfl ?_
 refine RL.nil ?_
 refine X.seq ?_
 refine X.region rfl ?_
 refine RL.fieldAddr rfl fd38_0 rfl ?_
 refine RL.loadOA rfl ag34 rfl (clCells_id hid) (gcells_length hid) ?_
 refine RL.loadIA rfl ag34 rfl e3 (by simp) (gcells_length hi) ?_
 refine RL.eqA rfl eqg_guid rfl rfl (eq_guid hid hi) (fun he => ?_) (fun he => ?_)
 ·skip
  refine RL.assign rfl ?_
  refine RL.nil ?_
  refine X.ret ?_
  refine ret1 rfl ?_
  show (_ : Value) = _
  rw [decide_eq_true he]
 ·skip
  refine RL.assign rfl ?_
  refine RL.nil ?_
  refine X.ret ?_
  refine ret1 rfl ?_
  show (_ : Value) = _
  rw [decide_eq_false he]
theorem f_index (m : List Cl) (hsz : ∀ c ∈ m, ClSz c) (hlen : m.length ≤ 1000) (A : Option Addr) (n : Nat) (w : World) (hm : ModR w m A) (id : List Int) (hi : id.length = 16) (b3 : Nat) (h3 : w.heap[b3]? = some (cel 34 (gcells id))) :
    Ctr Try.prog 38 [.slice A m.length n, .func (.func 39) #[] #[.pointer (some ⟨b3, 0, none⟩)]] w [] fun v _ => v = .int .i64 (match mfindP m id with | some k => ((k : Nat) : Int) | none => -1) := by
 have hm1 := hm
 obtain ⟨bb, oo, hA, hc⟩ := hm.open
 have hb3 : b3 < w.heap.size := (Array.getElem?_eq_some_iff.1 h3).1
 refine Ctr.intro0 (n := 19) Try.func38 rfl Try.ntmps38 (Nat.le_of_ble_eq_true rfl) ?_
 refine X.seq ?_
 refine X.region rfl ?_
 refine RL.assign rfl ?_
 refine RL.nil ?_
 refine X.seq ?_
 refine X.seq ?_
 refine X.region rfl ?_
 refine RL.move rfl ?_
 refine RL.len rfl sl22 rfl ?_
 refine RL.move rfl ?_
 refine RL.nil ?_
 refine X.block ?_
 refine X.loop (γ := Nat) (fun g ρ L => (g ≤ m.length) ∧ (∀ (j : Nat) c, j < g → m[j]? = some c → c.id ≠ id) ∧ Has ρ [(0, .slice A m.length n), (1, .func (.func 39) #[] #[.pointer (some ⟨b3, 0, none⟩)]), (7, .int .i64 m.length), (8, .int .i64 g)] ∧ L = []) (fun g => m.length - g) (0) ⟨_, (by repeat (first | exact List.Sublist.refl _ | exact List.nil_sublist _ | (rw [List.append_nil]; exact List.Sublist.refl _) | exact List.sublist_append_left _ _ | exact (List.sublist_append_left _ _).trans (List.sublist_append_left _ _) | apply List.Sublist.cons_cons | apply List.Sublist.cons | refine List.Sublist.trans ?_ (List.sublist_append_right _ _))), Nat.zero_le _, fun j c hj => absurd hj (Nat.not_lt_zero j), ⟨rfl, rfl, rfl, rfl, trivial⟩, rfl⟩ ?_
 rintro g _ _ ⟨hg0, hq, hρ, rfl⟩
 obtain ⟨base, rfl⟩ := hρ.base
 clear hρ
 refine X.seq ?_
 refine X.region rfl ?_
 refine RL.cmp_s rfl rfl rfl rfl (fun hg => ?_) (fun hg => ?_)
 ·replace hg : (_ : Int) < _ := hg
  obtain ⟨cl, hcl⟩ : ∃ cl, m[g]? = some cl := ⟨_, List.getElem?_eq_getElem (by omega)⟩
  obtain ⟨cs, hcs, hcr⟩ := hc g cl hcl
  have hcz := hsz cl (List.mem_of_getElem? hcl)
  refine RL.nil ?_
  refine X.seq ?_
  refine X.cond_t rfl ?_
  refine X.skip ?_
  refine X.seq ?_
  refine X.block ?_
  refine X.seq ?_
  refine X.region rfl ?_
  refine RL.move rfl ?_
  refine RL.assign rfl ?_
  refine RL.nil ?_
  refine X.seq ?_
  refine X.region rfl ?_
  refine RL.move rfl ?_
  refine RL.move rfl ?_
  refine RL.move rfl ?_
  refine RL.indexAddr rfl sl22 rfl rfl (hA (by omega)) rfl (by omega) ?_
  refine RL.loadIA rfl ag38 rfl hcs (by simp) hcr.len ?_
  refine RL.fnV (f := 39) (caps := [.pointer (some ⟨b3, 0, none⟩)]) (vals := [.agg cs.toArray]) (Lp := []) (Lr := []) rfl rfl rfl en39 (List.Perm.refl _) rfl (fun w1 hw1 => f_find1 cl cs id hi b3 w1 (hcr.st0 hw1) (by rw [hw1.keep b3 hb3 (by simp)]; exact h3)) ?_
  rintro _ _ rfl
  refine RL.drop rfl (List.sublist_append_right _ _) ?_
  refine RL.nil ?_
  refine X.cond_s rfl (fun he => ?_) (fun he => ?_)
  ·refine X.seq ?_
   refine X.region rfl ?_
   refine RL.move rfl ?_
   refine RL.assign rfl ?_
   refine RL.nil ?_
   refine X.ret ?_
   refine ret1 rfl ?_
   show (_ : Value) = _
   rw [mfindP_some hcl he hq]
  ·refine X.skip ?_
   refine X.blk ?_
   refine X.region rfl ?_
   refine RL.add rfl rfl rfl (by omega) ?_
   refine RL.move rfl ?_
   refine RL.nil ?_
   refine X.hyp ⟨rfl, g + 1, by omega, _, (by repeat (first | exact List.Sublist.refl _ | exact List.nil_sublist _ | (rw [List.append_nil]; exact List.Sublist.refl _) | exact List.sublist_append_left _ _ | exact (List.sublist_append_left _ _).trans (List.sublist_append_left _ _) | apply List.Sublist.cons_cons | apply List.Sublist.cons | refine List.Sublist.trans ?_ (List.sublist_append_right _ _))), by omega, fun j c hj hcj => by
       rcases Nat.lt_succ_iff_lt_or_eq.1 hj with h3 | rfl
       · exact hq j c h3 hcj
       · rw [hcl] at hcj; obtain rfl := Option.some.inj hcj; exact he, ⟨rfl, rfl, rfl, rfl, trivial⟩, rfl⟩
 ·replace hg : ¬ ((_ : Int) < _) := hg
  refine RL.nil ?_
  refine X.seq ?_
  refine X.cond_f rfl ?_
  refine X.exit rfl ?_
  refine X.seq ?_
  refine X.region rfl ?_
  refine RL.assign rfl ?_
  refine RL.nil ?_
  refine X.ret ?_
  refine ret1 rfl ?_
  show (_ : Value) = _
  rw [mfindP_none (fun j c hcj => hq j c (by have := (List.getElem?_eq_some_iff.1 hcj).1; omega) hcj)]
theorem f_mfind (m : List Cl) (hsz : ∀ c ∈ m, ClSz c) (hlen : m.length ≤ 1000) (A : Option Addr) (n : Nat) (w : World) (hm : ModR w m A) (id : List Int) (hi : id.length = 16) :
    Ctr Try.prog 24 [.agg #[.slice A m.length n], .agg (gcells id).toArray] w [] fun v _ => v = (match mfindP m id with | some k => .tuple #[.int .i64 ((k : Nat) : Int), .int .i64 0] | none => .tuple #[.int .i64 0, .int .i64 8]) := by
 refine Ctr.intro0 (n := 14) Try.func24 rfl Try.ntmps24 (Nat.le_of_ble_eq_true rfl) ?_
 refine X.seq ?_
 refine X.region rfl ?_
 refine RL.boxA rfl rfl rfl ?_
 intro b2 hb2
 dsimp only at hb2
 refine RL.boxA rfl rfl rfl ?_
 intro b3 hb3
 dsimp only at hb3
 refine RL.assign rfl ?_
 refine RL.assign rfl ?_
 refine RL.nil ?_
 refine X.seq ?_
 refine X.region rfl ?_
 refine RL.fieldAddr rfl fd24_0 rfl ?_
 refine RL.loadO rfl sc22 rfl rfl ?_
 refine RL.makeFunc rfl rfl rfl ?_
 refine RL.fn0 rfl rfl rfl en38 (fun w hw => (f_index m hsz hlen A n w (hm.st0 hw) id hi b3 (hw.own (b3, _) (by simp)))) rfl ?_
 rintro _ _ rfl
 refine RL.assign rfl ?_
 refine RL.nil ?_
 refine X.seq ?_
 refine X.seq ?_
 refine X.region rfl ?_
 refine RL.move rfl ?_
 refine RL.cmp_s rfl rfl rfl rfl (fun h => ?_) (fun h => ?_)
 ·replace h : (_ : Int) < _ := h
  refine RL.nil ?_
  refine X.cond_t rfl ?_
  refine X.seq ?_
  refine X.region rfl ?_
  refine RL.assign rfl ?_
  refine RL.assign rfl ?_
  refine RL.nil ?_
  refine X.ret ?_
  refine ret2 rfl ?_
  show (_ : Value) = _
  cases hf : mfindP m id with
  | none => rfl
  | some k => rw [hf] at h; simp only [] at h; omega
 ·replace h : ¬ ((_ : Int) < _) := h
  refine RL.nil ?_
  refine X.cond_f rfl ?_
  refine X.skip ?_
  refine X.seq ?_
  refine X.region rfl ?_
  refine RL.move rfl ?_
  refine RL.assign rfl ?_
  refine RL.assign rfl ?_
  refine RL.nil ?_
  refine X.ret ?_
  refine ret2 rfl ?_
  cases hf : mfindP m id with
  | none => rw [hf] at h; simp at h
  | some k => rfl
theorem f_rmfind (m : List Cl) (hsz : ∀ c ∈ m, ClSz c) (hlen : m.length ≤ 1000) (A : Option Addr) (n : Nat) (w : World) (hm : ModR w m A) (id : List Int) (hi : id.length = 16) :
    Ctr Try.prog 25 [.agg #[.slice A m.length n], .agg (gcells id).toArray] w [] fun v _ => v = .int .i64 (match mfindP m id with | some k => ((k : Nat) : Int) | none => -1) := by
 have hm1 := hm
 obtain ⟨bb, oo, hA, hc⟩ := hm.open
 refine Ctr.intro0 (n := 22) Try.func25 rfl Try.ntmps25 (Nat.le_of_ble_eq_true rfl) ?_
 refine X.seq ?_
 refine X.region rfl ?_
 refine RL.boxA rfl rfl rfl ?_
 intro b2 hb2
 dsimp only at hb2
 refine RL.boxA rfl rfl rfl ?_
 intro b3 hb3
 dsimp only at hb3
 refine RL.assign rfl ?_
 refine RL.nil ?_
 refine X.seq ?_
 refine X.seq ?_
 refine X.region rfl ?_
 refine RL.assign rfl ?_
 refine RL.nil ?_
 refine X.block ?_
 refine X.loop (γ := Nat) (fun g ρ L => (g ≤ m.length) ∧ (∀ (j : Nat) c, j < g → m[j]? = some c → c.id ≠ id) ∧ Has ρ [(2, .pointer (some ⟨b2, 0, none⟩)), (3, .pointer (some ⟨b3, 0, none⟩)), (5, .int .i64 g)] ∧ L = [(b3, cel 34 (gcells id)), (b2, cel 24 [.slice A m.length n])]) (fun g => m.length - g) (0) ⟨_, (by repeat (first | exact List.Sublist.refl _ | exact List.nil_sublist _ | (rw [List.append_nil]; exact List.Sublist.refl _) | exact List.sublist_append_left _ _ | exact (List.sublist_append_left _ _).trans (List.sublist_append_left _ _) | apply List.Sublist.cons_cons | apply List.Sublist.cons | refine List.Sublist.trans ?_ (List.sublist_append_right _ _))), Nat.zero_le _, fun j c hj => absurd hj (Nat.not_lt_zero j), ⟨rfl, rfl, rfl, trivial⟩, rfl⟩ ?_
 rintro g _ _ ⟨hg0, hq, hρ, rfl⟩
 obtain ⟨base, rfl⟩ := hρ.base
 clear hρ
 refine X.seq ?_
 refine X.seq ?_
 refine X.region rfl ?_
 refine RL.move rfl ?_
 refine RL.fieldAddr rfl fd24_0 rfl ?_
 refine RL.loadO rfl sc22 rfl rfl ?_
 refine RL.len rfl sl22 rfl ?_
 refine RL.cmp_s rfl rfl rfl rfl (fun hg => ?_) (fun hg => ?_)
 ·replace hg : (_ : Int) < _ := hg
  obtain ⟨cl, hcl⟩ : ∃ cl, m[g]? = some cl := ⟨_, List.getElem?_eq_getElem (by omega)⟩
  obtain ⟨cs, hcs, hcr⟩ := hc g cl hcl
  have hcz := hsz cl (List.mem_of_getElem? hcl)
  obtain ⟨hid, hfo, Af, cf, Am, cm, ms, rfl, hrf, hrm, hms⟩ := hcr
  refine RL.nil ?_
  refine X.cond_t rfl ?_
  refine X.skip ?_
  refine X.seq ?_
  refine X.block ?_
  refine X.seq ?_
  refine X.draw (by kernel_rfl) (by kernel_rfl) ?_
  refine RL.fieldAddr rfl fd24_0 rfl ?_
  refine RL.loadO rfl sc22 rfl rfl ?_
  refine RL.move rfl ?_
  refine RL.indexAddr rfl sl22 rfl rfl (hA (by omega)) rfl (by omega) ?_
  refine RL.fieldAddr rfl fd38_0 rfl ?_
  refine RL.loadIA rfl ag34 rfl (cl_id_at hid hcs) (by simp) (gcells_length hid) ?_
  refine RL.loadOA rfl ag34 rfl (take_all (gcells_length hi)) (gcells_length hi) ?_
  refine RL.eqA rfl eqg_guid rfl rfl (eq_guid hid hi) (fun he => ?_) (fun he => ?_)
  ·skip
   refine RL.nil ?_
   refine X.cond_t rfl ?_
   refine X.seq ?_
   refine X.region rfl ?_
   refine RL.move rfl ?_
   refine RL.assign rfl ?_
   refine RL.nil ?_
   refine X.ret ?_
   refine ret1 rfl ?_
   show (_ : Value) = _
   rw [mfindP_some hcl he hq]
  ·skip
   refine RL.nil ?_
   refine X.cond_f rfl ?_
   refine X.skip ?_
   refine X.blk ?_
   refine X.region rfl ?_
   refine RL.move rfl ?_
   refine RL.add rfl rfl rfl (by omega) ?_
   refine RL.assign rfl ?_
   refine RL.nil ?_
   refine X.hyp ⟨rfl, g + 1, by omega, _, (by repeat (first | exact List.Sublist.refl _ | exact List.nil_sublist _ | (rw [List.append_nil]; exact List.Sublist.refl _) | exact List.sublist_append_left _ _ | exact (List.sublist_append_left _ _).trans (List.sublist_append_left _ _) | apply List.Sublist.cons_cons | apply List.Sublist.cons | refine List.Sublist.trans ?_ (List.sublist_append_right _ _))), by omega, fun j c hj hcj => by
       rcases Nat.lt_succ_iff_lt_or_eq.1 hj with h3 | rfl
       · exact hq j c h3 hcj
       · rw [hcl] at hcj; obtain rfl := Option.some.inj hcj; exact he, ⟨rfl, rfl, rfl, trivial⟩, rfl⟩
 ·replace hg : ¬ ((_ : Int) < _) := hg
  refine RL.nil ?_
  refine X.cond_f rfl ?_
  refine X.exit rfl ?_
  refine X.seq ?_
  refine X.region rfl ?_
  refine RL.assign rfl ?_
  refine RL.nil ?_
  refine X.ret ?_
  refine ret1 rfl ?_
  show (_ : Value) = _
  rw [mfindP_none (fun j c hcj => hq j c (by have := (List.getElem?_eq_some_iff.1 hcj).1; omega) hcj)]
theorem f_mcheck (m : List Cl) (hsz : ∀ c ∈ m, ClSz c) (hlen : m.length ≤ 1000) (A : Option Addr) (n : Nat) (w : World) (hm : ModR w m A) :
    Ctr Try.prog 10 [.agg #[.slice A m.length n]] w [] fun v _ => v = .tuple #[.int .i64 (mcheckP m).1, .int .i64 (mcheckP m).2] := by
 have hm1 := hm
 obtain ⟨bb, oo, hA, hc⟩ := hm.open
 refine Ctr.intro0 (n := 45) Try.func10 rfl Try.ntmps10 (Nat.le_of_ble_eq_true rfl) ?_
 refine X.seq ?_
 refine X.region rfl ?_
 refine RL.boxA rfl rfl rfl ?_
 intro b1 hb1
 dsimp only at hb1
 refine RL.assign rfl ?_
 refine RL.assign rfl ?_
 refine RL.nil ?_
 refine X.seq ?_
 refine X.seq ?_
 refine X.region rfl ?_
 refine RL.fieldAddr rfl fd24_0 rfl ?_
 refine RL.loadO rfl sc22 rfl rfl ?_
 refine RL.len rfl sl22 rfl ?_
 refine RL.cmp_s rfl rfl rfl rfl (fun h1 => ?_) (fun h1 => ?_)
 ·replace h1 : (_ : Int) < _ := h1
  refine RL.move rfl ?_
  refine RL.skip rfl ?_
  refine RL.skip rfl ?_
  refine RL.skip rfl ?_
  refine RL.skip rfl ?_
  refine RL.pick_t rfl rfl ?_
  refine RL.nil ?_
  refine X.cond_t rfl ?_
  refine X.seq ?_
  refine X.region rfl ?_
  refine RL.assign rfl ?_
  refine RL.assign rfl ?_
  refine RL.nil ?_
  refine X.ret ?_
  refine ret2 rfl ?_
  show (_ : Value) = _
  rw [mcheckP_len (.inl (by omega))]
 ·replace h1 : ¬ ((_ : Int) < _) := h1
  refine RL.move rfl ?_
  refine RL.fieldAddr rfl fd24_0 rfl ?_
  refine RL.loadO rfl sc22 rfl rfl ?_
  refine RL.len rfl sl22 rfl ?_
  refine RL.cmp_s rfl rfl rfl rfl (fun h2 => ?_) (fun h2 => ?_)
  ·replace h2 : (_ : Int) > _ := h2
   refine RL.pick_f rfl rfl ?_
   refine RL.nil ?_
   refine X.cond_t rfl ?_
   refine X.seq ?_
   refine X.region rfl ?_
   refine RL.assign rfl ?_
   refine RL.assign rfl ?_
   refine RL.nil ?_
   refine X.ret ?_
   refine ret2 rfl ?_
   show (_ : Value) = _
   rw [mcheckP_len (.inr (by omega))]
  ·replace h2 : ¬ ((_ : Int) > _) := h2
   have hl : ¬ (m.length < 1 ∨ 8 < m.length) := by omega
   refine RL.pick_f rfl rfl ?_
   refine RL.nil ?_
   refine X.cond_f rfl ?_
   refine X.skip ?_
   refine X.seq ?_
   refine X.seq ?_
   refine X.region rfl ?_
   refine RL.fieldAddr rfl fd24_0 rfl ?_
   refine RL.loadO rfl sc22 rfl rfl ?_
   refine RL.len rfl sl22 rfl ?_
   refine RL.move rfl ?_
   refine RL.nil ?_
   refine X.block ?_
   refine X.loop (γ := Nat) (fun g ρ L => (g ≤ m.length) ∧ (∀ (j : Nat) c, j < g → m[j]? = some c → verC m j c = none) ∧ Has ρ [(1, .pointer (some ⟨b1, 0, none⟩)), (20, .slice A m.length n), (21, .int .i64 m.length), (22, .int .i64 g)] ∧ L = [(b1, cel 24 [.slice A m.length n])]) (fun g => m.length - g) (0) ⟨_, (by repeat (first | exact List.Sublist.refl _ | exact List.nil_sublist _ | (rw [List.append_nil]; exact List.Sublist.refl _) | exact List.sublist_append_left _ _ | exact (List.sublist_append_left _ _).trans (List.sublist_append_left _ _) | apply List.Sublist.cons_cons | apply List.Sublist.cons | refine List.Sublist.trans ?_ (List.sublist_append_right _ _))), Nat.zero_le _, fun j c hj => absurd hj (Nat.not_lt_zero j), ⟨rfl, rfl, rfl, rfl, trivial⟩, rfl⟩ ?_
   rintro g _ _ ⟨hg0, hq, hρ, rfl⟩
   obtain ⟨base, rfl⟩ := hρ.base
   clear hρ
   refine X.seq ?_
   refine X.region rfl ?_
   refine RL.cmp_s rfl rfl rfl rfl (fun hg => ?_) (fun hg => ?_)
   ·replace hg : (_ : Int) < _ := hg
    obtain ⟨cl, hcl⟩ : ∃ cl, m[g]? = some cl := ⟨_, List.getElem?_eq_getElem (by omega)⟩
    obtain ⟨cs, hcs, hcr⟩ := hc g cl hcl
    have hcz := hsz cl (List.mem_of_getElem? hcl)
    refine RL.nil ?_
    refine X.seq ?_
    refine X.cond_t rfl ?_
    refine X.skip ?_
    refine X.seq ?_
    refine X.block ?_
    refine X.seq ?_
    refine X.region rfl ?_
    refine RL.move rfl ?_
    refine RL.indexAddr rfl sl22 rfl rfl (hA (by omega)) rfl (by omega) ?_
    refine RL.loadIA rfl ag38 rfl hcs (by simp) hcr.len ?_
    refine RL.alloc rfl rfl zt38 ?_
    intro b5 hb5
    dsimp only at hb5
    refine RL.assign rfl ?_
    refine RL.stA rfl rfl ag38.size rfl rfl hcr.len rfl hcr.one ?_
    refine RL.nil ?_
    refine X.seq ?_
    refine X.seq ?_
    refine X.region rfl ?_
    refine RL.loadOA rfl ag38 rfl (take_all hcr.len) hcr.len ?_
    refine RL.fn0 rfl rfl rfl en12 (fun w hw => (f_cclass cl cs hcz w (hcr.st0 hw))) rfl ?_
    rintro _ _ rfl
    refine RL.assign rfl ?_
    refine RL.nil ?_
    refine X.seq ?_
    refine X.region rfl ?_
    refine RL.move rfl ?_
    refine RL.cmp_s rfl rfl rfl rfl (fun he => ?_) (fun he => ?_)
    ·replace he : (_ : Int) ≠ _ := he
     refine RL.nil ?_
     refine X.cond_t rfl ?_
     refine X.seq ?_
     refine X.region rfl ?_
     refine RL.move rfl ?_
     refine RL.move rfl ?_
     refine RL.assign rfl ?_
     refine RL.assign rfl ?_
     refine RL.nil ?_
     refine X.ret ?_
     refine ret2 rfl ?_
     show (_ : Value) = _
     rw [mcheckP_hit hl hcl hq (verC_c he)]
    ·replace he : ¬ ((_ : Int) ≠ _) := he
     obtain ⟨k, hk1, hk2⟩ := mfindP_self hcl
     have hci := hcr.id
     refine RL.nil ?_
     refine X.cond_f rfl ?_
     refine X.skip ?_
     refine X.seq ?_
     refine X.region rfl ?_
     refine RL.loadOA rfl ag24 rfl rfl rfl ?_
     refine RL.fieldAddr rfl fd38_0 rfl ?_
     refine RL.loadOA rfl ag34 rfl (by obtain ⟨hid, hfo, Af, cf, Am, cm, ms, rfl, _⟩ := hcr; exact clCells_id hid) (gcells_length hci) ?_
     refine RL.fn0 rfl rfl rfl en24 (fun w hw => (f_mfind m hsz hlen A n w (hm1.st0 hw) cl.id hci).mono (fun v L h => (by rw [hk1] at h; exact h : v = .tuple #[.int .i64 ((k : Nat) : Int), .int .i64 0]))) rfl ?_
     rintro _ _ rfl
     refine RL.move rfl ?_
     refine RL.extract rfl rfl rfl ?_
     refine RL.extract rfl rfl rfl ?_
     refine RL.assign rfl ?_
     refine RL.assign rfl ?_
     refine RL.nil ?_
     refine X.seq ?_
     refine X.region rfl ?_
     refine RL.move rfl ?_
     refine RL.move rfl ?_
     refine RL.cmp_s rfl rfl rfl rfl (fun ht => ?_) (fun ht => ?_)
     ·replace ht : (_ : Int) < _ := ht
      refine RL.nil ?_
      refine X.cond_t rfl ?_
      refine X.seq ?_
      refine X.region rfl ?_
      refine RL.move rfl ?_
      refine RL.assign rfl ?_
      refine RL.assign rfl ?_
      refine RL.nil ?_
      refine X.ret ?_
      refine ret2 rfl ?_
      show (_ : Value) = _
      rw [mcheckP_hit hl hcl hq (verC_t he (by rw [hk1]; show k < g; omega))]
     ·replace ht : ¬ ((_ : Int) < _) := ht
      refine RL.nil ?_
      refine X.cond_f rfl ?_
      refine X.skip ?_
      refine X.blk ?_
      refine X.region rfl ?_
      refine RL.add rfl rfl rfl (by omega) ?_
      refine RL.move rfl ?_
      refine RL.nil ?_
      refine X.hyp ⟨rfl, g + 1, by omega, _, (by repeat (first | exact List.Sublist.refl _ | exact List.nil_sublist _ | (rw [List.append_nil]; exact List.Sublist.refl _) | exact List.sublist_append_left _ _ | exact (List.sublist_append_left _ _).trans (List.sublist_append_left _ _) | apply List.Sublist.cons_cons | apply List.Sublist.cons | refine List.Sublist.trans ?_ (List.sublist_append_right _ _))), by omega, fun j c hj hcj => by
          rcases Nat.lt_succ_iff_lt_or_eq.1 hj with h3 | rfl
          · exact hq j c h3 hcj
          · rw [hcl] at hcj; obtain rfl := Option.some.inj hcj; exact verC_no he (by rw [hk1]; show ¬ k < j; omega), ⟨rfl, rfl, rfl, rfl, trivial⟩, rfl⟩
   ·replace hg : ¬ ((_ : Int) < _) := hg
    refine RL.nil ?_
    refine X.seq ?_
    refine X.cond_f rfl ?_
    refine X.exit rfl ?_
    refine X.seq ?_
    refine X.region rfl ?_
    refine RL.assign rfl ?_
    refine RL.assign rfl ?_
    refine RL.nil ?_
    refine X.ret ?_
    refine ret2 rfl ?_
    show (_ : Value) = _
    rw [mcheckP_ok hl (fun j c hcj => hq j c (by have := (List.getElem?_eq_some_iff.1 hcj).1; omega) hcj)]
theorem f_rmcheck (m : List Cl) (hsz : ∀ c ∈ m, ClSz c) (hlen : m.length ≤ 1000) (A : Option Addr) (n : Nat) (w : World) (hm : ModR w m A) :
    Ctr Try.prog 11 [.agg #[.slice A m.length n]] w [] fun v _ => v = .tuple #[.int .i64 (mcheckP m).1, .int .i64 (mcheckP m).2] := by
 have hm1 := hm
 obtain ⟨bb, oo, hA, hc⟩ := hm.open
 refine Ctr.intro0 (n := 44) Try.func11 rfl Try.ntmps11 (Nat.le_of_ble_eq_true rfl) ?_
 refine X.seq ?_
 refine X.region rfl ?_
 refine RL.boxA rfl rfl rfl ?_
 intro b1 hb1
 dsimp only at hb1
 refine RL.assign rfl ?_
 refine RL.assign rfl ?_
 refine RL.nil ?_
 refine X.seq ?_
 refine X.seq ?_
 refine X.region rfl ?_
 refine RL.fieldAddr rfl fd24_0 rfl ?_
 refine RL.loadO rfl sc22 rfl rfl ?_
 refine RL.len rfl sl22 rfl ?_
 refine RL.cmp_s rfl rfl rfl rfl (fun h1 => ?_) (fun h1 => ?_)
 ·replace h1 : (_ : Int) = _ := h1
  refine RL.move rfl ?_
  refine RL.skip rfl ?_
  refine RL.skip rfl ?_
  refine RL.skip rfl ?_
  refine RL.skip rfl ?_
  refine RL.pick_t rfl rfl ?_
  refine RL.nil ?_
  refine X.cond_t rfl ?_
  refine X.seq ?_
  refine X.region rfl ?_
  refine RL.assign rfl ?_
  refine RL.assign rfl ?_
  refine RL.nil ?_
  refine X.ret ?_
  refine ret2 rfl ?_
  show (_ : Value) = _
  rw [mcheckP_len (.inl (by omega))]
 ·replace h1 : ¬ ((_ : Int) = _) := h1
  refine RL.move rfl ?_
  refine RL.fieldAddr rfl fd24_0 rfl ?_
  refine RL.loadO rfl sc22 rfl rfl ?_
  refine RL.len rfl sl22 rfl ?_
  refine RL.cmp_s rfl rfl rfl rfl (fun h2 => ?_) (fun h2 => ?_)
  ·replace h2 : (_ : Int) > _ := h2
   refine RL.pick_f rfl rfl ?_
   refine RL.nil ?_
   refine X.cond_t rfl ?_
   refine X.seq ?_
   refine X.region rfl ?_
   refine RL.assign rfl ?_
   refine RL.assign rfl ?_
   refine RL.nil ?_
   refine X.ret ?_
   refine ret2 rfl ?_
   show (_ : Value) = _
   rw [mcheckP_len (.inr (by omega))]
  ·replace h2 : ¬ ((_ : Int) > _) := h2
   have hl : ¬ (m.length < 1 ∨ 8 < m.length) := by omega
   refine RL.pick_f rfl rfl ?_
   refine RL.nil ?_
   refine X.cond_f rfl ?_
   refine X.skip ?_
   refine X.seq ?_
   refine X.seq ?_
   refine X.region rfl ?_
   refine RL.assign rfl ?_
   refine RL.nil ?_
   refine X.block ?_
   refine X.loop (γ := Nat) (fun g ρ L => (g ≤ m.length) ∧ (∀ (j : Nat) c, j < g → m[j]? = some c → verC m j c = none) ∧ Has ρ [(1, .pointer (some ⟨b1, 0, none⟩)), (4, .int .i64 g)] ∧ L = [(b1, cel 24 [.slice A m.length n])]) (fun g => m.length - g) (0) ⟨_, (by repeat (first | exact List.Sublist.refl _ | exact List.nil_sublist _ | (rw [List.append_nil]; exact List.Sublist.refl _) | exact List.sublist_append_left _ _ | exact (List.sublist_append_left _ _).trans (List.sublist_append_left _ _) | apply List.Sublist.cons_cons | apply List.Sublist.cons | refine List.Sublist.trans ?_ (List.sublist_append_right _ _))), Nat.zero_le _, fun j c hj => absurd hj (Nat.not_lt_zero j), ⟨rfl, rfl, trivial⟩, rfl⟩ ?_
   rintro g _ _ ⟨hg0, hq, hρ, rfl⟩
   obtain ⟨base, rfl⟩ := hρ.base
   clear hρ
   refine X.seq ?_
   refine X.seq ?_
   refine X.region rfl ?_
   refine RL.move rfl ?_
   refine RL.fieldAddr rfl fd24_0 rfl ?_
   refine RL.loadO rfl sc22 rfl rfl ?_
   refine RL.len rfl sl22 rfl ?_
   refine RL.cmp_s rfl rfl rfl rfl (fun hg => ?_) (fun hg => ?_)
   ·replace hg : (_ : Int) < _ := hg
    obtain ⟨cl, hcl⟩ : ∃ cl, m[g]? = some cl := ⟨_, List.getElem?_eq_getElem (by omega)⟩
    obtain ⟨cs, hcs, hcr⟩ := hc g cl hcl
    have hcz := hsz cl (List.mem_of_getElem? hcl)
    refine RL.nil ?_
    refine X.cond_t rfl ?_
    refine X.skip ?_
    refine X.seq ?_
    refine X.block ?_
    refine X.seq ?_
    refine X.seq ?_
    refine X.region rfl ?_
    refine RL.fieldAddr rfl fd24_0 rfl ?_
    refine RL.loadO rfl sc22 rfl rfl ?_
    refine RL.move rfl ?_
    refine RL.indexAddr rfl sl22 rfl rfl (hA (by omega)) rfl (by omega) ?_
    refine RL.loadIA rfl ag38 rfl hcs (by simp) hcr.len ?_
    refine RL.fn0 rfl rfl rfl en13 (fun w hw => (f_rcclass cl cs hcz w (hcr.st0 hw))) rfl ?_
    rintro _ _ rfl
    refine RL.assign rfl ?_
    refine RL.nil ?_
    refine X.seq ?_
    refine X.region rfl ?_
    refine RL.move rfl ?_
    refine RL.cmp_s rfl rfl rfl rfl (fun he => ?_) (fun he => ?_)
    ·replace he : (_ : Int) ≠ _ := he
     refine RL.nil ?_
     refine X.cond_t rfl ?_
     refine X.seq ?_
     refine X.region rfl ?_
     refine RL.move rfl ?_
     refine RL.move rfl ?_
     refine RL.assign rfl ?_
     refine RL.assign rfl ?_
     refine RL.nil ?_
     refine X.ret ?_
     refine ret2 rfl ?_
     show (_ : Value) = _
     rw [mcheckP_hit hl hcl hq (verC_c he)]
    ·replace he : ¬ ((_ : Int) ≠ _) := he
     obtain ⟨k, hk1, hk2⟩ := mfindP_self hcl
     have hci := hcr.id
     obtain ⟨hid, hfo, Af, cf, Am, cm, ms, rfl, hrf, hrm, hms⟩ := hcr
     refine RL.nil ?_
     refine X.cond_f rfl ?_
     refine X.skip ?_
     refine X.seq ?_
     refine X.draw (by kernel_rfl) (by kernel_rfl) ?_
     refine RL.loadOA rfl ag24 rfl (take_all rfl) rfl ?_
     refine RL.fieldAddr rfl fd24_0 rfl ?_
     refine RL.loadO rfl sc22 rfl rfl ?_
     refine RL.move rfl ?_
     refine RL.indexAddr rfl sl22 rfl rfl (hA (by omega)) rfl (by omega) ?_
     refine RL.fieldAddr rfl fd38_0 rfl ?_
     refine RL.loadIA rfl ag34 rfl (cl_id_at hid hcs) (by simp) (gcells_length hid) ?_
     refine RL.fnQ rfl rfl en25 (fun w hw => (f_rmfind m hsz hlen A n w (hm1.st0 hw) cl.id hid).mono (fun v L h => (by rw [hk1] at h; exact h : v = .int .i64 ((k : Nat) : Int)))) rfl ?_
     refine RL.move rfl ?_
     refine RL.cmp_s rfl rfl rfl rfl (fun ht => ?_) (fun ht => ?_)
     ·replace ht : (_ : Int) < _ := ht
      refine RL.nil ?_
      refine X.cond_t rfl ?_
      refine X.seq ?_
      refine X.region rfl ?_
      refine RL.move rfl ?_
      refine RL.assign rfl ?_
      refine RL.assign rfl ?_
      refine RL.nil ?_
      refine X.ret ?_
      refine ret2 rfl ?_
      show (_ : Value) = _
      rw [mcheckP_hit hl hcl hq (verC_t he (by rw [hk1]; show k < g; omega))]
     ·replace ht : ¬ ((_ : Int) < _) := ht
      refine RL.nil ?_
      refine X.cond_f rfl ?_
      refine X.skip ?_
      refine X.blk ?_
      refine X.region rfl ?_
      refine RL.move rfl ?_
      refine RL.add rfl rfl rfl (by omega) ?_
      refine RL.assign rfl ?_
      refine RL.nil ?_
      refine X.hyp ⟨rfl, g + 1, by omega, _, (by repeat (first | exact List.Sublist.refl _ | exact List.nil_sublist _ | (rw [List.append_nil]; exact List.Sublist.refl _) | exact List.sublist_append_left _ _ | exact (List.sublist_append_left _ _).trans (List.sublist_append_left _ _) | apply List.Sublist.cons_cons | apply List.Sublist.cons | refine List.Sublist.trans ?_ (List.sublist_append_right _ _))), by omega, fun j c hj hcj => by
          rcases Nat.lt_succ_iff_lt_or_eq.1 hj with h3 | rfl
          · exact hq j c h3 hcj
          · rw [hcl] at hcj; obtain rfl := Option.some.inj hcj; exact verC_no he (by rw [hk1]; show ¬ k < j; omega), ⟨rfl, rfl, trivial⟩, rfl⟩
   ·replace hg : ¬ ((_ : Int) < _) := hg
    refine RL.nil ?_
    refine X.cond_f rfl ?_
    refine X.exit rfl ?_
    refine X.seq ?_
    refine X.region rfl ?_
    refine RL.assign rfl ?_
    refine RL.assign rfl ?_
    refine RL.nil ?_
    refine X.ret ?_
    refine ret2 rfl ?_
    show (_ : Value) = _
    rw [mcheckP_ok hl (fun j c hcj => hq j c (by have := (List.getElem?_eq_some_iff.1 hcj).1; omega) hcj)]
end Go.Proofs.Ytdnnnbjmjjdcfaa

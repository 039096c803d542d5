/- The laws' own small functions. -/
import Derived.Test.YtdnnnbjmjjdcfaaE1
import Derived.Test.YtdnnnbjmjjdcfaaSmall
set_option linter.unusedVariables false
set_option linter.unusedSimpArgs false
namespace Go.Proofs.Ytdnnnbjmjjdcfaa
open Go.RowKit
attribute [local irreducible] X RL W Ctr
theorem f_samebytes (l : List Int) (hlen : l.length ≤ 1000000) (A B : Option Addr) (c d : Nat) (w : World) (h1 : Rd w A (gcells l)) (h2 : Rd w B (gcells l)) :
    Ctr Try.prog 15 [.slice A l.length c, .slice B l.length d] w [] fun v _ => v = .bool true := by
 obtain ⟨bb, oo, hA0, hc⟩ := h1
 obtain ⟨bb2, oo2, hB0, hc2⟩ := h2
 have hA : 0 < l.length → A = some ⟨bb, oo, none⟩ := fun h => hA0 (by rw [gcells_len]; omega)
 have hB : 0 < l.length → B = some ⟨bb2, oo2, none⟩ := fun h => hB0 (by rw [gcells_len]; omega)
 refine Ctr.intro0 (n := 26) Try.func15 rfl Try.ntmps15 (Nat.le_of_ble_eq_true rfl) ?_
 refine X.seq ?_
 refine X.region rfl ?_
 refine RL.assign rfl ?_
 refine RL.nil ?_
 refine X.seq ?_
 refine X.seq ?_
 refine X.region rfl ?_
 refine RL.move rfl ?_
 refine RL.len rfl sl40 rfl ?_
 refine RL.move rfl ?_
 refine RL.len rfl sl40 rfl ?_
 refine RL.cmp_f rfl rfl rfl rfl (by show ¬ ((_ : Int) ≠ _); exact fun h => h rfl) ?_
 refine RL.nil ?_
 refine X.cond_f rfl ?_
 refine X.skip ?_
 refine X.seq ?_
 refine X.seq ?_
 refine X.region rfl ?_
 refine RL.assign rfl ?_
 refine RL.nil ?_
 refine X.block ?_
 refine X.loop (γ := Nat) (fun g ρ L => (g ≤ l.length) ∧ Has ρ [(0, .slice A l.length c), (1, .slice B l.length d), (5, .int .i64 g)] ∧ L = []) (fun g => l.length - g) (0) ⟨_, (by repeat (first | exact List.Sublist.refl _ | exact List.nil_sublist _ | (rw [List.append_nil]; exact List.Sublist.refl _) | exact List.sublist_append_left _ _ | exact (List.sublist_append_left _ _).trans (List.sublist_append_left _ _) | apply List.Sublist.cons_cons | apply List.Sublist.cons | refine List.Sublist.trans ?_ (List.sublist_append_right _ _))), Nat.zero_le _, ⟨rfl, rfl, rfl, trivial⟩, rfl⟩ ?_
 rintro g _ _ ⟨q1, hρ, rfl⟩
 obtain ⟨base, rfl⟩ := hρ.base
 clear hρ
 refine X.seq ?_
 refine X.seq ?_
 refine X.region rfl ?_
 refine RL.move rfl ?_
 refine RL.move rfl ?_
 refine RL.len rfl sl40 rfl ?_
 refine RL.cmp_s rfl rfl rfl rfl (fun hlt => ?_) (fun hlt => ?_)
 ·replace hlt : (_ : Int) < _ := hlt
  obtain ⟨x, hx⟩ : ∃ x, l[g]? = some x := ⟨_, List.getElem?_eq_getElem (by omega)⟩
  have hx2 : (gcells l)[g]? = some (.int .u8 x) := by simp only [gcells, List.getElem?_map, hx]; rfl
  refine RL.nil ?_
  refine X.cond_t rfl ?_
  refine X.skip ?_
  refine X.seq ?_
  refine X.block ?_
  refine X.seq ?_
  refine X.draw (by kernel_rfl) (by kernel_rfl) ?_
  refine RL.move rfl ?_
  refine RL.move rfl ?_
  refine RL.indexAddr rfl sl40 rfl rfl (hA (by omega)) rfl (by omega) ?_
  refine RL.loadI rfl sc5 rfl (by rw [Nat.mul_one]; exact hc g _ hx2) (by simp) ?_
  refine RL.move rfl ?_
  refine RL.move rfl ?_
  refine RL.indexAddr rfl sl40 rfl rfl (hB (by omega)) rfl (by omega) ?_
  refine RL.loadI rfl sc5 rfl (by rw [Nat.mul_one]; exact hc2 g _ hx2) (by simp) ?_
  refine RL.cmp_f rfl rfl rfl rfl (by show ¬ ((_ : Int) ≠ _); exact fun h => h rfl) ?_
  refine RL.nil ?_
  refine X.cond_f rfl ?_
  refine X.skip ?_
  refine X.blk ?_
  refine X.region rfl ?_
  refine RL.move rfl ?_
  refine RL.add rfl rfl rfl (by omega) ?_
  refine RL.assign rfl ?_
  refine RL.nil ?_
  refine X.hyp ⟨rfl, g + 1, by omega, _, (by repeat (first | exact List.Sublist.refl _ | exact List.nil_sublist _ | (rw [List.append_nil]; exact List.Sublist.refl _) | exact List.sublist_append_left _ _ | exact (List.sublist_append_left _ _).trans (List.sublist_append_left _ _) | apply List.Sublist.cons_cons | apply List.Sublist.cons | refine List.Sublist.trans ?_ (List.sublist_append_right _ _))), by omega, ⟨rfl, rfl, rfl, trivial⟩, rfl⟩
 ·replace hlt : ¬ ((_ : Int) < _) := hlt
  refine RL.nil ?_
  refine X.cond_f rfl ?_
  refine X.exit rfl ?_
  refine X.seq ?_
  refine X.region rfl ?_
  refine RL.assign rfl ?_
  refine RL.nil ?_
  refine X.ret ?_
  exact ret1 rfl rfl
theorem f_great (m : List Cl) (A : Option Addr) (n : Nat) (w : World) (hm : ModR w m A) :
    Ctr Try.prog 8 [.agg #[.slice A m.length n]] w [] fun v _ => ∃ q, v = .bool q ∧ (q = false → m.length ≤ 12 ∧ ∀ c ∈ m, ClSz c) := by
 obtain ⟨bb, oo, hA, hc⟩ := hm.open
 refine Ctr.intro0 (n := 56) Try.func8 rfl Try.ntmps8 (Nat.le_of_ble_eq_true rfl) ?_
 refine X.seq ?_
 refine X.region rfl ?_
 refine RL.boxA rfl rfl rfl ?_
 intro b1 hb1
 dsimp only at hb1
 refine RL.assign rfl ?_
 refine RL.nil ?_
 refine X.seq ?_
 refine X.seq ?_
 refine X.region rfl ?_
 refine RL.fieldAddr rfl fd24_0 rfl ?_
 refine RL.loadO rfl sc22 rfl rfl ?_
 refine RL.len rfl sl22 rfl ?_
 refine RL.cmp_s rfl rfl rfl rfl (fun h12 => ?_) (fun h12 => ?_)
 ·replace h12 : (_ : Int) > _ := h12
  refine RL.nil ?_
  refine X.cond_t rfl ?_
  refine X.seq ?_
  refine X.region rfl ?_
  refine RL.assign rfl ?_
  refine RL.nil ?_
  refine X.ret ?_
  exact ret1 rfl ⟨true, rfl, fun h => by cases h⟩
 ·replace h12 : ¬ ((_ : Int) > _) := h12
  have hl12 : m.length ≤ 12 := by omega
  refine RL.nil ?_
  refine X.cond_f rfl ?_
  refine X.skip ?_
  refine X.seq ?_
  refine X.seq ?_
  refine X.region rfl ?_
  refine RL.assign rfl ?_
  refine RL.nil ?_
  refine X.block ?_
  refine X.loop (γ := Nat) (fun g ρ L => (g ≤ m.length) ∧ (∀ (j : Nat) c, j < g → m[j]? = some c → ClSz c) ∧ Has ρ [(1, .pointer (some ⟨b1, 0, none⟩)), (3, .int .i64 g)] ∧ L = [(b1, cel 24 [.slice A m.length n])]) (fun g => m.length - g) (0) ⟨_, (by repeat (first | exact List.Sublist.refl _ | exact List.nil_sublist _ | (rw [List.append_nil]; exact List.Sublist.refl _) | exact List.sublist_append_left _ _ | exact (List.sublist_append_left _ _).trans (List.sublist_append_left _ _) | apply List.Sublist.cons_cons | apply List.Sublist.cons | refine List.Sublist.trans ?_ (List.sublist_append_right _ _))), Nat.zero_le _, fun j c hj => absurd hj (Nat.not_lt_zero j), ⟨rfl, rfl, trivial⟩, rfl⟩ ?_
  rintro g _ _ ⟨hg0, hq, hρ, rfl⟩
  obtain ⟨base, rfl⟩ := hρ.base
  clear hρ
  refine X.seq ?_
  refine X.seq ?_
  refine X.region rfl ?_
  refine RL.move rfl ?_
  refine RL.fieldAddr rfl fd24_0 rfl ?_
  refine RL.loadO rfl sc22 rfl rfl ?_
  refine RL.len rfl sl22 rfl ?_
  refine RL.cmp_s rfl rfl rfl rfl (fun hg => ?_) (fun hg => ?_)
  ·replace hg : (_ : Int) < _ := hg
   obtain ⟨cl, hcl⟩ : ∃ cl, m[g]? = some cl := ⟨_, List.getElem?_eq_getElem (by omega)⟩
   obtain ⟨cs, hcs, hcr⟩ := hc g cl hcl
   obtain ⟨hid, hfo, Af, cf, Am, cm, ms, rfl, ⟨bf, of_, hAf0, hcf⟩, ⟨bm, om, hAm, hcm⟩, hms⟩ := hcr
   rw [hms.1] at hAm
   have hAf : 0 < cl.faces.length → Af = some ⟨bf, of_, none⟩ := fun h => hAf0 (by rw [fcells_len hfo]; omega)
   refine RL.nil ?_
   refine X.cond_t rfl ?_
   refine X.skip ?_
   refine X.seq ?_
   refine X.block ?_
   refine X.seq ?_
   refine X.seq ?_
   refine X.region rfl ?_
   refine RL.fieldAddr rfl fd24_0 rfl ?_
   refine RL.loadO rfl sc22 rfl rfl ?_
   refine RL.move rfl ?_
   refine RL.indexAddr rfl sl22 rfl rfl (hA (by omega)) rfl (by omega) ?_
   refine RL.fieldAddr rfl fd38_1 rfl ?_
   refine RL.loadI rfl sc35 rfl (hcs 16 _ (clCells_at hid).1) (by simp) ?_
   refine RL.len rfl sl35 rfl ?_
   refine RL.cmp_s rfl rfl rfl rfl (fun hf40 => ?_) (fun hf40 => ?_)
   ·replace hf40 : (_ : Int) > _ := hf40
    refine RL.move rfl ?_
    refine RL.skip rfl ?_
    refine RL.skip rfl ?_
    refine RL.skip rfl ?_
    refine RL.skip rfl ?_
    refine RL.skip rfl ?_
    refine RL.skip rfl ?_
    refine RL.skip rfl ?_
    refine RL.skip rfl ?_
    refine RL.pick_t rfl rfl ?_
    refine RL.nil ?_
    refine X.cond_t rfl ?_
    refine X.seq ?_
    refine X.region rfl ?_
    refine RL.assign rfl ?_
    refine RL.nil ?_
    refine X.ret ?_
    exact ret1 rfl ⟨true, rfl, fun h => by cases h⟩
   ·replace hf40 : ¬ ((_ : Int) > _) := hf40
    refine RL.move rfl ?_
    refine RL.fieldAddr rfl fd24_0 rfl ?_
    refine RL.loadO rfl sc22 rfl rfl ?_
    refine RL.move rfl ?_
    refine RL.indexAddr rfl sl22 rfl rfl (hA (by omega)) rfl (by omega) ?_
    refine RL.fieldAddr rfl fd38_3 rfl ?_
    refine RL.loadI rfl sc36 rfl (hcs 18 _ (clCells_at hid).2.2) (by simp) ?_
    refine RL.len rfl sl36 rfl ?_
    refine RL.cmp_s rfl rfl rfl rfl (fun hm20 => ?_) (fun hm20 => ?_)
    ·replace hm20 : (_ : Int) > _ := hm20
     refine RL.pick_f rfl rfl ?_
     refine RL.nil ?_
     refine X.cond_t rfl ?_
     refine X.seq ?_
     refine X.region rfl ?_
     refine RL.assign rfl ?_
     refine RL.nil ?_
     refine X.ret ?_
     exact ret1 rfl ⟨true, rfl, fun h => by cases h⟩
    ·replace hm20 : ¬ ((_ : Int) > _) := hm20
     refine RL.pick_f rfl rfl ?_
     refine RL.nil ?_
     refine X.cond_f rfl ?_
     refine X.skip ?_
     refine X.seq ?_
     refine X.region rfl ?_
     refine RL.assign rfl ?_
     refine RL.nil ?_
     refine X.block ?_
     refine X.loop (γ := Nat) (fun h ρ L => (h ≤ cl.methods.length) ∧ (∀ (j : Nat) l, j < h → cl.methods[j]? = some l → l.length ≤ 60) ∧ Has ρ [(1, .pointer (some ⟨b1, 0, none⟩)), (3, .int .i64 g), (4, .int .i64 h)] ∧ L = [(b1, cel 24 [.slice A m.length n])]) (fun h => cl.methods.length - h) (0) ⟨_, (by repeat (first | exact List.Sublist.refl _ | exact List.nil_sublist _ | (rw [List.append_nil]; exact List.Sublist.refl _) | exact List.sublist_append_left _ _ | exact (List.sublist_append_left _ _).trans (List.sublist_append_left _ _) | apply List.Sublist.cons_cons | apply List.Sublist.cons | refine List.Sublist.trans ?_ (List.sublist_append_right _ _))), Nat.zero_le _, fun j l hj => absurd hj (Nat.not_lt_zero j), ⟨rfl, rfl, rfl, trivial⟩, rfl⟩ ?_
     rintro h _ _ ⟨hh0, hq2, hρ, rfl⟩
     obtain ⟨base, rfl⟩ := hρ.base
     clear hρ
     refine X.seq ?_
     refine X.seq ?_
     refine X.region rfl ?_
     refine RL.move rfl ?_
     refine RL.fieldAddr rfl fd24_0 rfl ?_
     refine RL.loadO rfl sc22 rfl rfl ?_
     refine RL.move rfl ?_
     refine RL.indexAddr rfl sl22 rfl rfl (hA (by omega)) rfl (by omega) ?_
     refine RL.fieldAddr rfl fd38_3 rfl ?_
     refine RL.loadI rfl sc36 rfl (hcs 18 _ (clCells_at hid).2.2) (by simp) ?_
     refine RL.len rfl sl36 rfl ?_
     refine RL.cmp_s rfl rfl rfl rfl (fun hl2 => ?_) (fun hl2 => ?_)
     ·replace hl2 : (_ : Int) < _ := hl2
      obtain ⟨l, hl⟩ : ∃ l, cl.methods[h]? = some l := ⟨_, List.getElem?_eq_getElem (by omega)⟩
      obtain ⟨Al, c2, hml, hrl⟩ := hms.2 h l hl
      refine RL.nil ?_
      refine X.cond_t rfl ?_
      refine X.skip ?_
      refine X.seq ?_
      refine X.block ?_
      refine X.seq ?_
      refine X.region rfl ?_
      refine RL.fieldAddr rfl fd24_0 rfl ?_
      refine RL.loadO rfl sc22 rfl rfl ?_
      refine RL.move rfl ?_
      refine RL.indexAddr rfl sl22 rfl rfl (hA (by omega)) rfl (by omega) ?_
      refine RL.fieldAddr rfl fd38_3 rfl ?_
      refine RL.loadI rfl sc36 rfl (hcs 18 _ (clCells_at hid).2.2) (by simp) ?_
      refine RL.move rfl ?_
      refine RL.indexAddr rfl sl36 rfl rfl (hAm (by omega)) rfl (by omega) ?_
      refine RL.loadI rfl sc56 rfl (by rw [Nat.mul_one]; exact hcm h _ hml) (by simp) ?_
      refine RL.len rfl sl56 rfl ?_
      refine RL.cmp_s rfl rfl rfl rfl (fun h60 => ?_) (fun h60 => ?_)
      ·replace h60 : (_ : Int) > _ := h60
       refine RL.nil ?_
       refine X.cond_t rfl ?_
       refine X.seq ?_
       refine X.region rfl ?_
       refine RL.assign rfl ?_
       refine RL.nil ?_
       refine X.ret ?_
       exact ret1 rfl ⟨true, rfl, fun h => by cases h⟩
      ·replace h60 : ¬ ((_ : Int) > _) := h60
       refine RL.nil ?_
       refine X.cond_f rfl ?_
       refine X.skip ?_
       refine X.blk ?_
       refine X.region rfl ?_
       refine RL.move rfl ?_
       refine RL.add rfl rfl rfl (by omega) ?_
       refine RL.assign rfl ?_
       refine RL.nil ?_
       refine X.hyp ⟨rfl, h + 1, by omega, _, (by repeat (first | exact List.Sublist.refl _ | exact List.nil_sublist _ | (rw [List.append_nil]; exact List.Sublist.refl _) | exact List.sublist_append_left _ _ | exact (List.sublist_append_left _ _).trans (List.sublist_append_left _ _) | apply List.Sublist.cons_cons | apply List.Sublist.cons | refine List.Sublist.trans ?_ (List.sublist_append_right _ _))), by omega, fun j l2 hj hl9 => by
           rcases Nat.lt_succ_iff_lt_or_eq.1 hj with h3 | rfl
           · exact hq2 j l2 h3 hl9
           · rw [hl] at hl9; obtain rfl := Option.some.inj hl9; omega, ⟨rfl, rfl, rfl, trivial⟩, rfl⟩
     ·replace hl2 : ¬ ((_ : Int) < _) := hl2
      refine RL.nil ?_
      refine X.cond_f rfl ?_
      refine X.exit rfl ?_
      refine X.blk ?_
      refine X.region rfl ?_
      refine RL.move rfl ?_
      refine RL.add rfl rfl rfl (by omega) ?_
      refine RL.assign rfl ?_
      refine RL.nil ?_
      refine X.hyp ⟨rfl, g + 1, by omega, _, (by repeat (first | exact List.Sublist.refl _ | exact List.nil_sublist _ | (rw [List.append_nil]; exact List.Sublist.refl _) | exact List.sublist_append_left _ _ | exact (List.sublist_append_left _ _).trans (List.sublist_append_left _ _) | apply List.Sublist.cons_cons | apply List.Sublist.cons | refine List.Sublist.trans ?_ (List.sublist_append_right _ _))), by omega, fun j c2 hj hc2 => by
          rcases Nat.lt_succ_iff_lt_or_eq.1 hj with h3 | rfl
          · exact hq j c2 h3 hc2
          · rw [hcl] at hc2; obtain rfl := Option.some.inj hc2; exact ⟨by omega, by omega, fun l hl => by
              obtain ⟨i, hi⟩ := List.getElem?_of_mem hl
              have := hq2 i l (by have := (List.getElem?_eq_some_iff.1 hi).1; omega) hi
              omega⟩, ⟨rfl, rfl, trivial⟩, rfl⟩
  ·replace hg : ¬ ((_ : Int) < _) := hg
   refine RL.nil ?_
   refine X.cond_f rfl ?_
   refine X.exit rfl ?_
   refine X.seq ?_
   refine X.region rfl ?_
   refine RL.assign rfl ?_
   refine RL.nil ?_
   refine X.ret ?_
   refine ret1 rfl ⟨false, rfl, fun _ => ⟨hl12, fun c hc3 => ?_⟩⟩
   obtain ⟨i, hi⟩ := List.getElem?_of_mem hc3
   exact hq i c (by have := (List.getElem?_eq_some_iff.1 hi).1; omega) hi
theorem f_small (w : World) :
    Ctr Try.prog 28 [] w [] fun v L => ∃ A n, v = .agg #[.slice A smM.length n] ∧ ∃ Ls, ModO smM A n Ls ∧ Ls.Sublist L := by
 refine Ctr.intro0 (n := 10) Try.func28 rfl Try.ntmps28 (Nat.le_of_ble_eq_true rfl) ?_
 refine X.seq ?_
 refine X.region rfl ?_
 refine RL.alloc rfl rfl zt24 ?_
 intro b0 hb0
 dsimp only at hb0
 refine RL.nil ?_
 refine X.seq ?_
 refine X.region rfl ?_
 refine RL.bldC (vs := [(1, .int .i64 (-1))]) (cells := [.int .u8 0, .int .u8 0, .int .u8 0, .int .u8 0, .int .u8 0, .int .u8 0, .int .u8 0, .int .u8 0, .int .u8 0, .int .u8 0, .int .u8 0, .int .u8 0, .int .u8 0, .int .u8 0, .int .u8 0, .int .u8 0, .int .i64 (-1)]) rfl rfl (fun w => by kernel_rfl) ?_
 refine RL.bsC (vs := [(0, .agg ([.int .u8 0, .int .u8 0, .int .u8 0, .int .u8 0, .int .u8 0, .int .u8 0, .int .u8 0, .int .u8 0, .int .u8 0, .int .u8 0, .int .u8 0, .int .u8 0, .int .u8 0, .int .u8 0, .int .u8 0, .int .u8 0, .int .i64 (-1)] : List Value).toArray)]) (cells := [.int .u8 0, .int .u8 0, .int .u8 0, .int .u8 0, .int .u8 0, .int .u8 0, .int .u8 0, .int .u8 0, .int .u8 0, .int .u8 0, .int .u8 0, .int .u8 0, .int .u8 0, .int .u8 0, .int .u8 0, .int .u8 0, .int .i64 (-1)]) rfl rfl sl35 (fun w => let ⟨v, a, b⟩ := zt72; ⟨v, a, b w⟩) rfl rfl rfl (by kernel_rfl) ?_
 intro bf hbf
 refine RL.bldC (vs := [(0, .int .i64 2)]) (cells := [.int .i64 2, .int .i64 0, .int .i64 0]) rfl rfl (fun w => by kernel_rfl) ?_
 refine RL.bldC (vs := [(0, .int .i64 11)]) (cells := [.int .i64 11, .int .i64 0, .int .i64 0]) rfl rfl (fun w => by kernel_rfl) ?_
 refine RL.bsC (vs := [(0, .agg ([.int .i64 2, .int .i64 0, .int .i64 0] : List Value).toArray), (1, .agg ([.int .i64 11, .int .i64 0, .int .i64 0] : List Value).toArray)]) (cells := [.int .i64 2, .int .i64 0, .int .i64 0, .int .i64 11, .int .i64 0, .int .i64 0]) rfl rfl sl56 (fun w => let ⟨v, a, b⟩ := zt61; ⟨v, a, b w⟩) rfl rfl rfl (by kernel_rfl) ?_
 intro bi hbi
 refine RL.bsC (vs := [(0, .slice (some ⟨bi, 0, none⟩) 2 2)]) (cells := [.slice (some ⟨bi, 0, none⟩) 2 2]) rfl rfl sl36 (fun w => let ⟨v, a, b⟩ := zt56; ⟨v, a, b w⟩) rfl rfl rfl (by kernel_rfl) ?_
 intro bm hbm
 refine RL.bldC (vs := [(1, .slice (some ⟨bf, 0, none⟩) 1 1), (3, .slice (some ⟨bm, 0, none⟩) 1 1)]) (cells := [.int .u8 0, .int .u8 0, .int .u8 0, .int .u8 0, .int .u8 0, .int .u8 0, .int .u8 0, .int .u8 0, .int .u8 0, .int .u8 0, .int .u8 0, .int .u8 0, .int .u8 0, .int .u8 0, .int .u8 0, .int .u8 0, .slice (some ⟨bf, 0, none⟩) 1 1, .int .i64 0, .slice (some ⟨bm, 0, none⟩) 1 1]) rfl rfl (fun w => by kernel_rfl) ?_
 refine RL.bsC (vs := [(0, .agg ([.int .u8 0, .int .u8 0, .int .u8 0, .int .u8 0, .int .u8 0, .int .u8 0, .int .u8 0, .int .u8 0, .int .u8 0, .int .u8 0, .int .u8 0, .int .u8 0, .int .u8 0, .int .u8 0, .int .u8 0, .int .u8 0, .slice (some ⟨bf, 0, none⟩) 1 1, .int .i64 0, .slice (some ⟨bm, 0, none⟩) 1 1] : List Value).toArray)]) (cells := [.int .u8 0, .int .u8 0, .int .u8 0, .int .u8 0, .int .u8 0, .int .u8 0, .int .u8 0, .int .u8 0, .int .u8 0, .int .u8 0, .int .u8 0, .int .u8 0, .int .u8 0, .int .u8 0, .int .u8 0, .int .u8 0, .slice (some ⟨bf, 0, none⟩) 1 1, .int .i64 0, .slice (some ⟨bm, 0, none⟩) 1 1]) rfl rfl sl22 (fun w => let ⟨v, a, b⟩ := zt38; ⟨v, a, b w⟩) rfl rfl rfl (by kernel_rfl) ?_
 intro bc hbc
 refine RL.bldC (vs := [(0, .slice (some ⟨bc, 0, none⟩) 1 1)]) (cells := [.slice (some ⟨bc, 0, none⟩) 1 1]) rfl rfl (fun w => by kernel_rfl) ?_
 refine RL.stA rfl rfl ag24.size rfl rfl rfl rfl (by simp [Value.oneCell']) ?_
 refine RL.nil ?_
 refine X.ret ?_
 refine RetQ.perm (L' := [(bc, cel 38 ([.int .u8 0, .int .u8 0, .int .u8 0, .int .u8 0, .int .u8 0, .int .u8 0, .int .u8 0, .int .u8 0, .int .u8 0, .int .u8 0, .int .u8 0, .int .u8 0, .int .u8 0, .int .u8 0, .int .u8 0, .int .u8 0, .slice (some ⟨bf, 0, none⟩) 1 1, .int .i64 0, .slice (some ⟨bm, 0, none⟩) 1 1] ++ []))] ++ ([(bf, cel 72 ([.int .u8 0, .int .u8 0, .int .u8 0, .int .u8 0, .int .u8 0, .int .u8 0, .int .u8 0, .int .u8 0, .int .u8 0, .int .u8 0, .int .u8 0, .int .u8 0, .int .u8 0, .int .u8 0, .int .u8 0, .int .u8 0, .int .i64 (-1)] ++ []))] ++ ([(bm, cel 56 ([.slice (some ⟨bi, 0, none⟩) 2 2] ++ []))] ++ ([(bi, cel 61 ([.int .i64 2, .int .i64 0, .int .i64 0, .int .i64 11, .int .i64 0, .int .i64 0] ++ []))] ++ [(b0, cel 24 [.slice (some ⟨bc, 0, none⟩) 1 1])])))) (by classical exact List.perm_iff_count.2 (fun z => by simp only [List.count_append, List.count_cons, List.count_nil, List.cons_append, List.nil_append, List.set_cons_zero, List.set_cons_succ] <;> omega)) ?_
 refine retcA1 rfl ag24 rfl rfl ⟨some ⟨bc, 0, none⟩, 1, rfl, _, ⟨[[.int .u8 0, .int .u8 0, .int .u8 0, .int .u8 0, .int .u8 0, .int .u8 0, .int .u8 0, .int .u8 0, .int .u8 0, .int .u8 0, .int .u8 0, .int .u8 0, .int .u8 0, .int .u8 0, .int .u8 0, .int .u8 0, .slice (some ⟨bf, 0, none⟩) 1 1, .int .i64 0, .slice (some ⟨bm, 0, none⟩) 1 1]], _, _, Row.blk bc 1 1 [.int .u8 0, .int .u8 0, .int .u8 0, .int .u8 0, .int .u8 0, .int .u8 0, .int .u8 0, .int .u8 0, .int .u8 0, .int .u8 0, .int .u8 0, .int .u8 0, .int .u8 0, .int .u8 0, .int .u8 0, .int .u8 0, .slice (some ⟨bf, 0, none⟩) 1 1, .int .i64 0, .slice (some ⟨bm, 0, none⟩) 1 1] [] rfl rfl (Nat.le_refl _), ClsO.snoc ClsO.nil ⟨rfl, ?_, some ⟨bf, 0, none⟩, 1, some ⟨bm, 0, none⟩, 1, [.slice (some ⟨bi, 0, none⟩) 2 2], _, _, _, rfl, Row.blk bf 1 1 [.int .u8 0, .int .u8 0, .int .u8 0, .int .u8 0, .int .u8 0, .int .u8 0, .int .u8 0, .int .u8 0, .int .u8 0, .int .u8 0, .int .u8 0, .int .u8 0, .int .u8 0, .int .u8 0, .int .u8 0, .int .u8 0, .int .i64 (-1)] [] rfl rfl (Nat.le_refl _), Row.blk bm 1 1 [.slice (some ⟨bi, 0, none⟩) 2 2] [] rfl rfl (Nat.le_refl _), MsO.snoc MsO.nil (Row.blk bi 2 2 [.int .i64 2, .int .i64 0, .int .i64 0, .int .i64 11, .int .i64 0, .int .i64 0] [] rfl rfl (Nat.le_refl _)), rfl⟩, rfl⟩, ?_⟩
 · intro f hf
   replace hf : f ∈ smF := hf
   simp only [smF, List.mem_singleton] at hf
   subst hf; rfl
 · exact List.sublist_append_left [(bc, cel 38 ([.int .u8 0, .int .u8 0, .int .u8 0, .int .u8 0, .int .u8 0, .int .u8 0, .int .u8 0, .int .u8 0, .int .u8 0, .int .u8 0, .int .u8 0, .int .u8 0, .int .u8 0, .int .u8 0, .int .u8 0, .int .u8 0, .slice (some ⟨bf, 0, none⟩) 1 1, .int .i64 0, .slice (some ⟨bm, 0, none⟩) 1 1] ++ [])), (bf, cel 72 ([.int .u8 0, .int .u8 0, .int .u8 0, .int .u8 0, .int .u8 0, .int .u8 0, .int .u8 0, .int .u8 0, .int .u8 0, .int .u8 0, .int .u8 0, .int .u8 0, .int .u8 0, .int .u8 0, .int .u8 0, .int .u8 0, .int .i64 (-1)] ++ [])), (bm, cel 56 ([.slice (some ⟨bi, 0, none⟩) 2 2] ++ [])), (bi, cel 61 ([.int .i64 2, .int .i64 0, .int .i64 0, .int .i64 11, .int .i64 0, .int .i64 0] ++ []))] [(b0, cel 24 [.slice (some ⟨bc, 0, none⟩) 1 1])]
end Go.Proofs.Ytdnnnbjmjjdcfaa

/- What is great; awake. -/
import Derived.Test.YtnebpklmbefmfaaR8
set_option linter.unusedVariables false
set_option linter.unusedSimpArgs false
namespace Go.Proofs.Ytnebpklmbefmfaa
open Go.RowKit
attribute [local irreducible] X RL W Ctr
theorem f_great (ms : List (List Cl)) (A : Option Addr) (n : Nat) (w : World) (hms : ModsR w ms A) :
    Ctr Try.prog 25 [.slice A ms.length n] w [] fun v _ => ∃ q, v = .bool q ∧ (q = false → ms.length ≤ 6 ∧ MsSz ms) := by
 obtain ⟨vs, ⟨bb, oo, hA0, hvs⟩, hsta⟩ := hms
 have hvl := hsta.len
 refine Ctr.intro0 (n := 65) Try.func25 rfl Try.ntmps25 (Nat.le_of_ble_eq_true rfl) ?_
 refine X.seq ?_
 refine X.region rfl ?_
 refine RL.assign rfl ?_
 refine RL.nil ?_
 refine X.seq ?_
 refine X.seq ?_
 refine X.region rfl ?_
 refine RL.move rfl ?_
 refine RL.len rfl sl32 rfl ?_
 refine RL.cmp_s rfl rfl rfl rfl (fun h6 => ?_) (fun h6 => ?_)
 ·replace h6 : (_ : Int) > _ := h6
  refine RL.nil ?_
  refine X.cond_t rfl ?_
  refine X.seq ?_
  refine X.region rfl ?_
  refine RL.assign rfl ?_
  refine RL.nil ?_
  refine X.ret ?_
  exact ret1 rfl ⟨true, rfl, fun h => by cases h⟩
 replace h6 : ¬ ((_ : Int) > _) := h6
 have hl6 : ms.length ≤ 6 := by omega
 refine RL.nil ?_
 refine X.cond_f rfl ?_
 refine X.skip ?_
 refine X.seq ?_
 refine X.seq ?_
 refine X.region rfl ?_
 refine RL.assign rfl ?_
 refine RL.nil ?_
 refine X.block ?_
 refine X.loop (γ := Nat) (fun g ρ L => (g ≤ ms.length) ∧ (∀ (j : Nat) m, j < g → ms[j]? = some m → m.length ≤ 10 ∧ ∀ c ∈ m, ClSz c) ∧ Has ρ [(0, .slice A ms.length n), (3, .int .i64 g)] ∧ L = []) (fun g => ms.length - g) (0) ⟨_, (by repeat (first | exact sb0 _ | exact sb1 _ | (rw [List.append_nil]; exact sb0 _) | exact sb2 _ _ | exact sb3 _ _ _ | apply sb4 | apply sb5 | apply sb6)), Nat.zero_le _, fun j c hj => absurd hj (Nat.not_lt_zero j), ⟨rfl, rfl, trivial⟩, rfl⟩ ?_
 rintro g _ _ ⟨hg0, hq, hρ, rfl⟩
 obtain ⟨base, rfl⟩ := hρ.base
 clear hρ
 refine X.seq ?_
 refine X.seq ?_
 refine X.region rfl ?_
 refine RL.move rfl ?_
 refine RL.move rfl ?_
 refine RL.len rfl sl32 rfl ?_
 refine RL.cmp_s rfl rfl rfl rfl (fun hg => ?_) (fun hg => ?_)
 ·replace hg : (_ : Int) < _ := hg
  obtain ⟨m, hm⟩ : ∃ m, ms[g]? = some m := ⟨_, List.getElem?_eq_getElem (by omega)⟩
  obtain ⟨Am, cm, hv0, hmr⟩ := hsta.get g m hm
  obtain ⟨bb2, oo2, hAm, hcl⟩ := hmr.open
  refine RL.nil ?_
  refine X.cond_t rfl ?_
  refine X.skip ?_
  refine X.seq ?_
  refine X.block ?_
  refine X.seq ?_
  refine X.seq ?_
  refine X.region rfl ?_
  refine RL.move rfl ?_
  refine RL.move rfl ?_
  refine RL.indexAddr rfl sl32 rfl rfl (hA0 (by omega)) rfl (by omega) ?_
  refine RL.fieldAddr rfl fd30_0 rfl ?_
  refine RL.loadI rfl sc28 rfl (cells_one hvs hv0 0 _ rfl) (by simp) ?_
  refine RL.len rfl sl28 rfl ?_
  refine RL.cmp_s rfl rfl rfl rfl (fun h10 => ?_) (fun h10 => ?_)
  ·replace h10 : (_ : Int) > _ := h10
   refine RL.nil ?_
   refine X.cond_t rfl ?_
   refine X.seq ?_
   refine X.region rfl ?_
   refine RL.assign rfl ?_
   refine RL.nil ?_
   refine X.ret ?_
   exact ret1 rfl ⟨true, rfl, fun h => by cases h⟩
  replace h10 : ¬ ((_ : Int) > _) := h10
  refine RL.nil ?_
  refine X.cond_f rfl ?_
  refine X.skip ?_
  refine X.seq ?_
  refine X.region rfl ?_
  refine RL.assign rfl ?_
  refine RL.nil ?_
  refine X.block ?_
  refine X.loop (γ := Nat) (fun k ρ L => (k ≤ m.length) ∧ (∀ (j : Nat) c, j < k → m[j]? = some c → ClSz c) ∧ Has ρ [(0, .slice A ms.length n), (3, .int .i64 g), (4, .int .i64 k)] ∧ L = []) (fun k => m.length - k) (0) ⟨_, (by repeat (first | exact sb0 _ | exact sb1 _ | (rw [List.append_nil]; exact sb0 _) | exact sb2 _ _ | exact sb3 _ _ _ | apply sb4 | apply sb5 | apply sb6)), Nat.zero_le _, fun j c hj => absurd hj (Nat.not_lt_zero j), ⟨rfl, rfl, rfl, trivial⟩, rfl⟩ ?_
  rintro k _ _ ⟨hk0, hq1, hρ, rfl⟩
  obtain ⟨base, rfl⟩ := hρ.base
  clear hρ
  refine X.seq ?_
  refine X.seq ?_
  refine X.region rfl ?_
  refine RL.move rfl ?_
  refine RL.move rfl ?_
  refine RL.move rfl ?_
  refine RL.indexAddr rfl sl32 rfl rfl (hA0 (by omega)) rfl (by omega) ?_
  refine RL.fieldAddr rfl fd30_0 rfl ?_
  refine RL.loadI rfl sc28 rfl (cells_one hvs hv0 0 _ rfl) (by simp) ?_
  refine RL.len rfl sl28 rfl ?_
  refine RL.cmp_s rfl rfl rfl rfl (fun hk => ?_) (fun hk => ?_)
  ·replace hk : (_ : Int) < _ := hk
   obtain ⟨cl, hcl1⟩ : ∃ cl, m[k]? = some cl := ⟨_, List.getElem?_eq_getElem (by omega)⟩
   obtain ⟨cs, hcs, hcr⟩ := hcl k cl hcl1
   have h19 := hcr.len
   have h1c := hcr.one
   obtain ⟨hid7, hfo7, Af7, cf7, Am7, cm7, ms7, rfl, ⟨bf7, of7_, hAf07, hcf7⟩, ⟨bm7, om7, hAm7, hcm7⟩, hms7⟩ := hcr
   rw [hms7.1] at hAm7
   have hAf7 : 0 < cl.faces.length → Af7 = some ⟨bf7, of7_, none⟩ := fun h => hAf07 (by rw [fcells_len hfo7]; omega)
   refine RL.nil ?_
   refine X.cond_t rfl ?_
   refine X.skip ?_
   refine X.seq ?_
   refine X.block ?_
   refine X.seq ?_
   refine X.region rfl ?_
   refine RL.move rfl ?_
   refine RL.move rfl ?_
   refine RL.indexAddr rfl sl32 rfl rfl (hA0 (by omega)) rfl (by omega) ?_
   refine RL.fieldAddr rfl fd30_0 rfl ?_
   refine RL.loadI rfl sc28 rfl (cells_one hvs hv0 0 _ rfl) (by simp) ?_
   refine RL.move rfl ?_
   refine RL.indexAddr rfl sl28 rfl rfl (hAm (by omega)) rfl (by omega) ?_
   refine RL.loadIA rfl ag69 rfl hcs (by simp) h19 ?_
   refine RL.alloc rfl rfl zt69 ?_
   intro b5 hb5
   dsimp only at hb5
   refine RL.stA rfl rfl ag69.size rfl rfl h19 rfl h1c ?_
   refine RL.nil ?_
   refine X.seq ?_
   refine X.seq ?_
   refine X.region rfl ?_
   refine RL.fieldAddr rfl fd69_1 rfl ?_
   refine RL.loadO rfl sc66 rfl (clCells_f hid7) ?_
   refine RL.len rfl sl66 rfl ?_
   refine RL.cmp_s rfl rfl rfl rfl (fun hf20 => ?_) (fun hf20 => ?_)
   ·replace hf20 : (_ : Int) > _ := hf20
    refine RL.move rfl ?_
    refine RL.skip rfl ?_
    refine RL.skip rfl ?_
    refine RL.skip rfl ?_
    refine RL.skip rfl ?_
    refine RL.pick_t rfl rfl ?_
    refine RL.nil ?_
    refine X.cond_t rfl ?_
    refine X.seq ?_
    refine X.region rfl ?_
    refine RL.assign rfl ?_
    refine RL.nil ?_
    refine X.ret ?_
    exact ret1 rfl ⟨true, rfl, fun h => by cases h⟩
   replace hf20 : ¬ ((_ : Int) > _) := hf20
   refine RL.move rfl ?_
   refine RL.fieldAddr rfl fd69_3 rfl ?_
   refine RL.loadO rfl sc67 rfl (clCells_m hid7) ?_
   refine RL.len rfl sl67 rfl ?_
   refine RL.cmp_s rfl rfl rfl rfl (fun hm10 => ?_) (fun hm10 => ?_)
   ·replace hm10 : (_ : Int) > _ := hm10
    refine RL.pick_f rfl rfl ?_
    refine RL.nil ?_
    refine X.cond_t rfl ?_
    refine X.seq ?_
    refine X.region rfl ?_
    refine RL.assign rfl ?_
    refine RL.nil ?_
    refine X.ret ?_
    exact ret1 rfl ⟨true, rfl, fun h => by cases h⟩
   replace hm10 : ¬ ((_ : Int) > _) := hm10
   refine RL.pick_f rfl rfl ?_
   refine RL.nil ?_
   refine X.cond_f rfl ?_
   refine X.skip ?_
   refine X.seq ?_
   refine X.region rfl ?_
   refine RL.assign rfl ?_
   refine RL.nil ?_
   refine X.block ?_
   refine X.loop (γ := Nat) (fun h ρ L => (h ≤ cl.methods.length) ∧ (∀ (j : Nat) l, j < h → cl.methods[j]? = some l → l.length ≤ 40) ∧ Has ρ [(0, .slice A ms.length n), (3, .int .i64 g), (4, .int .i64 k), (5, .pointer (some ⟨b5, 0, none⟩)), (6, .int .i64 h)] ∧ L = [(b5, cel 69 (clCells cl.id (.slice Af7 cl.faces.length cf7) cl.slots (.slice Am7 cl.methods.length cm7)))]) (fun h => cl.methods.length - h) (0) ⟨_, (by repeat (first | exact sb0 _ | exact sb1 _ | (rw [List.append_nil]; exact sb0 _) | exact sb2 _ _ | exact sb3 _ _ _ | apply sb4 | apply sb5 | apply sb6)), Nat.zero_le _, fun j l hj => absurd hj (Nat.not_lt_zero j), ⟨rfl, rfl, rfl, rfl, rfl, trivial⟩, rfl⟩ ?_
   rintro h _ _ ⟨hh0, hq2, hρ, rfl⟩
   obtain ⟨base, rfl⟩ := hρ.base
   clear hρ
   refine X.seq ?_
   refine X.seq ?_
   refine X.region rfl ?_
   refine RL.move rfl ?_
   refine RL.fieldAddr rfl fd69_3 rfl ?_
   refine RL.loadO rfl sc67 rfl (clCells_m hid7) ?_
   refine RL.len rfl sl67 rfl ?_
   refine RL.cmp_s rfl rfl rfl rfl (fun hl2 => ?_) (fun hl2 => ?_)
   ·replace hl2 : (_ : Int) < _ := hl2
    obtain ⟨l, hl⟩ : ∃ l, cl.methods[h]? = some l := ⟨_, List.getElem?_eq_getElem (by omega)⟩
    obtain ⟨Al, c2, hml, hrl⟩ := hms7.2 h l hl
    refine RL.nil ?_
    refine X.cond_t rfl ?_
    refine X.skip ?_
    refine X.seq ?_
    refine X.block ?_
    refine X.seq ?_
    refine X.region rfl ?_
    refine RL.fieldAddr rfl fd69_3 rfl ?_
    refine RL.loadO rfl sc67 rfl (clCells_m hid7) ?_
    refine RL.move rfl ?_
    refine RL.indexAddr rfl sl67 rfl rfl (hAm7 (by omega)) rfl (by omega) ?_
    refine RL.loadI rfl sc78 rfl (by rw [Nat.mul_one]; exact hcm7 h _ hml) (by simp) ?_
    refine RL.len rfl sl78 rfl ?_
    refine RL.cmp_s rfl rfl rfl rfl (fun h40 => ?_) (fun h40 => ?_)
    ·replace h40 : (_ : Int) > _ := h40
     refine RL.nil ?_
     refine X.cond_t rfl ?_
     refine X.seq ?_
     refine X.region rfl ?_
     refine RL.assign rfl ?_
     refine RL.nil ?_
     refine X.ret ?_
     exact ret1 rfl ⟨true, rfl, fun h => by cases h⟩
    replace h40 : ¬ ((_ : Int) > _) := h40
    refine RL.nil ?_
    refine X.cond_f rfl ?_
    refine X.skip ?_
    refine X.blk ?_
    refine X.region rfl ?_
    refine RL.move rfl ?_
    refine RL.add rfl rfl rfl (by omega) ?_
    refine RL.assign rfl ?_
    refine RL.nil ?_
    refine X.hyp ⟨rfl, h + 1, by omega, _, (by repeat (first | exact sb0 _ | exact sb1 _ | (rw [List.append_nil]; exact sb0 _) | exact sb2 _ _ | exact sb3 _ _ _ | apply sb4 | apply sb5 | apply sb6)), by omega, fun j l2 hj hl9 => by
        rcases Nat.lt_succ_iff_lt_or_eq.1 hj with h3 | rfl
        · exact hq2 j l2 h3 hl9
        · rw [hl] at hl9; obtain rfl := Option.some.inj hl9; omega, ⟨rfl, rfl, rfl, rfl, rfl, trivial⟩, rfl⟩
   replace hl2 : ¬ ((_ : Int) < _) := hl2
   refine RL.nil ?_
   refine X.cond_f rfl ?_
   refine X.exit rfl ?_
   refine X.blk ?_
   refine X.region rfl ?_
   refine RL.move rfl ?_
   refine RL.add rfl rfl rfl (by omega) ?_
   refine RL.assign rfl ?_
   refine RL.nil ?_
   refine X.hyp ⟨rfl, k + 1, by omega, _, (by repeat (first | exact sb0 _ | exact sb1 _ | (rw [List.append_nil]; exact sb0 _) | exact sb2 _ _ | exact sb3 _ _ _ | apply sb4 | apply sb5 | apply sb6)), by omega, fun j c2 hj hc2 => by
       rcases Nat.lt_succ_iff_lt_or_eq.1 hj with h3 | rfl
       · exact hq1 j c2 h3 hc2
       · rw [hcl1] at hc2; obtain rfl := Option.some.inj hc2; exact ⟨by omega, by omega, fun l hl => by
           obtain ⟨i, hi⟩ := List.getElem?_of_mem hl
           have := hq2 i l (by have := (List.getElem?_eq_some_iff.1 hi).1; omega) hi
           omega⟩, ⟨rfl, rfl, rfl, trivial⟩, rfl⟩
  replace hk : ¬ ((_ : Int) < _) := hk
  refine RL.nil ?_
  refine X.cond_f rfl ?_
  refine X.exit rfl ?_
  refine X.blk ?_
  refine X.region rfl ?_
  refine RL.move rfl ?_
  refine RL.add rfl rfl rfl (by omega) ?_
  refine RL.assign rfl ?_
  refine RL.nil ?_
  refine X.hyp ⟨rfl, g + 1, by omega, _, (by repeat (first | exact sb0 _ | exact sb1 _ | (rw [List.append_nil]; exact sb0 _) | exact sb2 _ _ | exact sb3 _ _ _ | apply sb4 | apply sb5 | apply sb6)), by omega, fun j c hj hcj => by
      rcases Nat.lt_succ_iff_lt_or_eq.1 hj with h3 | rfl
      · exact hq j c h3 hcj
      · rw [hm] at hcj; obtain rfl := Option.some.inj hcj; exact ⟨by omega, fun c hc3 => by
          obtain ⟨i, hi⟩ := List.getElem?_of_mem hc3
          exact hq1 i c (by have := (List.getElem?_eq_some_iff.1 hi).1; omega) hi⟩, ⟨rfl, rfl, trivial⟩, rfl⟩
 replace hg : ¬ ((_ : Int) < _) := hg
 refine RL.nil ?_
 refine X.cond_f rfl ?_
 refine X.exit rfl ?_
 refine X.seq ?_
 refine X.region rfl ?_
 refine RL.assign rfl ?_
 refine RL.nil ?_
 refine X.ret ?_
 refine ret1 rfl ⟨false, rfl, fun _ => ⟨hl6, fun m hm3 => ?_⟩⟩
 obtain ⟨i, hi⟩ := List.getElem?_of_mem hm3
 obtain ⟨h7, h8⟩ := hq i m (by have := (List.getElem?_eq_some_iff.1 hi).1; omega) hi
 exact ⟨by omega, h8⟩
theorem f_sameints (xs ys : List Int) (A B : Option Addr) (c d : Nat) (w : World) (hx : xs.length ≤ 1000000) (hy : ys.length ≤ 1000000) (ha : Rd w A (ints xs)) (hb : Rd w B (ints ys)) :
    Ctr Try.prog 17 [.slice A xs.length c, .slice B ys.length d] w [] fun v _ => v = .bool (decide (xs = ys)) := by
 obtain ⟨ba, oa, ha1, ha2⟩ := ha
 obtain ⟨bb, ob, hb1, hb2⟩ := hb
 rw [ints_length] at ha1 hb1
 refine Ctr.intro0 (n := 26) Try.func17 rfl Try.ntmps17 (Nat.le_of_ble_eq_true rfl) ?_
 refine X.seq ?_
 refine X.region rfl ?_
 refine RL.assign rfl ?_
 refine RL.nil ?_
 refine X.seq ?_
 refine X.seq ?_
 refine X.region rfl ?_
 refine RL.move rfl ?_
 refine RL.len rfl sl38 rfl ?_
 refine RL.move rfl ?_
 refine RL.len rfl sl38 rfl ?_
 refine RL.cmp_s rfl rfl rfl rfl (fun h => ?_) (fun h => ?_)
 ·replace h : (_ : Int) ≠ _ := h
  refine RL.nil ?_
  refine X.cond_t rfl ?_
  refine X.seq ?_
  refine X.region rfl ?_
  refine RL.assign rfl ?_
  refine RL.nil ?_
  refine X.ret ?_
  refine ret1 rfl ?_
  show (_ : Value) = _
  rw [decide_eq_false (fun e => h (by rw [e]))]
 replace h : ¬ ((_ : Int) ≠ _) := h
 have hlen : xs.length = ys.length := by omega
 refine RL.nil ?_
 refine X.cond_f rfl ?_
 refine X.skip ?_
 refine X.seq ?_
 refine X.seq ?_
 refine X.region rfl ?_
 refine RL.assign rfl ?_
 refine RL.nil ?_
 refine X.block ?_
 refine X.loop (γ := Nat) (fun g ρ L => (g ≤ xs.length) ∧ (xs.take g = ys.take g) ∧ Has ρ [(0, .slice A xs.length c), (1, .slice B ys.length d), (5, .int .i64 g)] ∧ L = []) (fun g => xs.length - g) (0) ⟨_, (by repeat (first | exact sb0 _ | exact sb1 _ | (rw [List.append_nil]; exact sb0 _) | exact sb2 _ _ | exact sb3 _ _ _ | apply sb4 | apply sb5 | apply sb6)), Nat.zero_le _, rfl, ⟨rfl, rfl, rfl, trivial⟩, rfl⟩ ?_
 rintro g _ _ ⟨q1, q2, hρ, rfl⟩
 obtain ⟨base, rfl⟩ := hρ.base
 clear hρ
 refine X.seq ?_
 refine X.seq ?_
 refine X.region rfl ?_
 refine RL.move rfl ?_
 refine RL.move rfl ?_
 refine RL.len rfl sl38 rfl ?_
 refine RL.cmp_s rfl rfl rfl rfl (fun hl => ?_) (fun hl => ?_)
 ·replace hl : (_ : Int) < _ := hl
  obtain ⟨a, hxa⟩ : ∃ a, xs[g]? = some a := ⟨_, List.getElem?_eq_getElem (by omega)⟩
  obtain ⟨b, hyb⟩ : ∃ b, ys[g]? = some b := ⟨_, List.getElem?_eq_getElem (by omega)⟩
  have t1 := List.take_succ_eq_append_getElem (l := xs) (i := g) (by omega)
  have t2 := List.take_succ_eq_append_getElem (l := ys) (i := g) (by omega)
  have u1 : xs[g]'(by omega) = a := by rw [List.getElem?_eq_getElem (by omega)] at hxa; exact Option.some.inj hxa
  have u2 : ys[g]'(by omega) = b := by rw [List.getElem?_eq_getElem (by omega)] at hyb; exact Option.some.inj hyb
  refine RL.nil ?_
  refine X.cond_t rfl ?_
  refine X.skip ?_
  refine X.seq ?_
  refine X.block ?_
  refine X.seq ?_
  refine X.draw (by kernel_rfl) (by kernel_rfl) ?_
  refine RL.move rfl ?_
  refine RL.move rfl ?_
  refine RL.indexAddr rfl sl38 rfl rfl (ha1 (by omega)) rfl (by omega) ?_
  refine RL.loadI rfl sc3 rfl (by rw [Nat.mul_one]; exact ha2 g _ (ints_get hxa)) (by simp) ?_
  refine RL.move rfl ?_
  refine RL.move rfl ?_
  refine RL.indexAddr rfl sl38 rfl rfl (hb1 (by omega)) rfl (by omega) ?_
  refine RL.loadI rfl sc3 rfl (by rw [Nat.mul_one]; exact hb2 g _ (ints_get hyb)) (by simp) ?_
  refine RL.cmp_s rfl rfl rfl rfl (fun he => ?_) (fun he => ?_)
  ·replace he : (_ : Int) ≠ _ := he
   refine RL.nil ?_
   refine X.cond_t rfl ?_
   refine X.seq ?_
   refine X.region rfl ?_
   refine RL.assign rfl ?_
   refine RL.nil ?_
   refine X.ret ?_
   refine ret1 rfl ?_
   show (_ : Value) = _
   rw [decide_eq_false]
   rintro rfl
   rw [hxa] at hyb
   exact he (Option.some.inj hyb)
  replace he : ¬ ((_ : Int) ≠ _) := he
  refine RL.nil ?_
  refine X.cond_f rfl ?_
  refine X.skip ?_
  refine X.blk ?_
  refine X.region rfl ?_
  refine RL.move rfl ?_
  refine RL.add rfl rfl rfl (by omega) ?_
  refine RL.assign rfl ?_
  refine RL.nil ?_
  refine X.hyp ⟨rfl, g + 1, by omega, _, (by repeat (first | exact sb0 _ | exact sb1 _ | (rw [List.append_nil]; exact sb0 _) | exact sb2 _ _ | exact sb3 _ _ _ | apply sb4 | apply sb5 | apply sb6)), by omega, by rw [t1, t2, q2, u1, u2]; congr 2; exact Decidable.not_not.1 he, ⟨rfl, rfl, rfl, trivial⟩, rfl⟩
 replace hl : ¬ ((_ : Int) < _) := hl
 refine RL.nil ?_
 refine X.cond_f rfl ?_
 refine X.exit rfl ?_
 refine X.seq ?_
 refine X.region rfl ?_
 refine RL.assign rfl ?_
 refine RL.nil ?_
 refine X.ret ?_
 refine ret1 rfl ?_
 show (_ : Value) = _
 rw [decide_eq_true]
 rw [List.take_of_length_le (by omega), List.take_of_length_le (by omega)] at q2
 exact q2
set_option maxHeartbeats 1000000 in
set_option maxRecDepth 10000 in
theorem f_awake (w : World) :
    Ctr Try.prog 16 [] w [] fun v _ => v = .bool true := by
 refine Ctr.intro0 (n := 38) Try.func16 rfl Try.ntmps16 (Nat.le_of_ble_eq_true rfl) ?_
 refine X.seq ?_
 refine X.region rfl ?_
 refine RL.assign rfl ?_
 refine RL.nil ?_
 refine X.seq ?_
 refine X.region rfl ?_
 refine RL.fn0 rfl rfl rfl en11 (fun w hw => (f_one 1 w)) rfl ?_
 rintro _ _ ⟨A0, n0, rfl, L0, hm0, hs0⟩
 refine RL.drop (L' := L0) rfl (by rw [List.append_nil]; exact hs0) ?_
 refine RL.bs1A (l := [.slice A0 (oneM 1).length n0]) rfl rfl sl32 zt30 rfl rfl (by decide) ?_
 intro bm hbm
 refine RL.fn (Lp := []) (Lr := (bm, cel 30 [.slice A0 (oneM 1).length n0]) :: L0) rfl rfl rfl en10 (List.Perm.refl _) (fun w1 hw1 => f_new [oneM 1] (fun m hm => by rw [List.mem_singleton] at hm; subst hm; exact one_sz 1) (some ⟨bm, 0, none⟩) 1 1 (by decide) w1 (ModsO.rd hw1 (ModsO.snoc ModsO.nil hm0) (Row.blk bm 1 1 [.slice A0 (oneM 1).length n0] [] rfl rfl (Nat.le_refl _)) (fun p hp => by simpa using .inr hp) (fun p hp => by simp at hp; subst hp; simp)) (fun m hm => by rw [List.mem_singleton] at hm; subst hm; exact one_b (by decide))) rfl ?_
 rintro _ Lz (⟨hne, _⟩ | ⟨_, rb, A, cp, Lr, xs, Lst, rfl, hrow, hst, hsub⟩)
 · exact absurd (by decide +kernel) hne
 have hxl : xs.length = 1 := hst.len
 have hx5 : xs.length ≤ 1000 := by omega
 refine RL.drop (L' := RegG rb A cp Lr 1 xs [mv0] ++ Lst) rfl (hsub.trans (List.sublist_append_left _ _)) ?_
 refine RL.move rfl ?_
 refine RL.extract rfl rfl rfl ?_
 refine RL.extract rfl rfl rfl ?_
 refine RL.assign rfl ?_
 refine RL.assign rfl ?_
 refine RL.nil ?_
 refine X.seq ?_
 refine X.seq ?_
 refine X.region rfl ?_
 refine RL.move rfl ?_
 refine RL.cmp_f rfl rfl rfl rfl (by show ¬ ((_ : Int) ≠ _); decide) ?_
 refine RL.move rfl ?_
 refine RL.move rfl ?_
 refine RL.fn (Lp := RegG rb A cp Lr (1) xs ([mv0])) (Lr := Lst) rfl rfl rfl en12 (List.Perm.refl _) (fun w1 hw1 => f_count (0) (0) true rb cp A Lr (1) xs ([mv0]) (by rw [hxl]; rfl) hx5 hrow w1 (fun p hp => hw1.own p (List.mem_append_left _ hp)) (hw1.nodup.sublist ((List.sublist_append_left _ _).map _))) rfl ?_
 rintro _ Lz ⟨rfl, rfl⟩
 rw [(by decide +kernel : countP [mv0] 0 0 true = (0, [⟨true, 1, 0, 0, 0⟩]))]
 refine RL.cmp_f rfl rfl rfl rfl (by show ¬ ((_ : Int) ≠ _); decide) ?_
 refine RL.pick_f rfl rfl ?_
 refine RL.move rfl ?_
 refine RL.move rfl ?_
 refine RL.fn (Lp := RegG rb A cp Lr (1) xs ([⟨true, 1, 0, 0, 0⟩])) (Lr := Lst) rfl rfl rfl en12 (List.Perm.refl _) (fun w1 hw1 => f_count (0) (0) false rb cp A Lr (1) xs ([⟨true, 1, 0, 0, 0⟩]) (by rw [hxl]; rfl) hx5 hrow w1 (fun p hp => hw1.own p (List.mem_append_left _ hp)) (hw1.nodup.sublist ((List.sublist_append_left _ _).map _))) rfl ?_
 rintro _ Lz ⟨rfl, rfl⟩
 rw [(by decide +kernel : countP [⟨true, 1, 0, 0, 0⟩] 0 0 false = (0, [⟨true, 0, 0, 0, 0⟩]))]
 refine RL.cmp_f rfl rfl rfl rfl (by show ¬ ((_ : Int) ≠ _); decide) ?_
 refine RL.pick_f rfl rfl ?_
 refine RL.move rfl ?_
 refine RL.move rfl ?_
 refine RL.fn (Lp := RegG rb A cp Lr (1) xs ([⟨true, 0, 0, 0, 0⟩])) (Lr := Lst) rfl rfl rfl en14 (List.Perm.refl _) (fun w1 hw1 => f_free rb cp A Lr (1) xs ([⟨true, 0, 0, 0, 0⟩]) (by rw [hxl]; rfl) hx5 hrow w1 (fun p hp => hw1.own p (List.mem_append_left _ hp)) (hw1.nodup.sublist ((List.sublist_append_left _ _).map _))) rfl ?_
 rintro _ Lz ⟨Ao1, co1, Lo1, rfl, hro1, rfl⟩
 rw [(by rw [hxl]; decide +kernel : freedP 1 [⟨true, 0, 0, 0, 0⟩] xs.length = [])] at hro1 ⊢
 rw [(by decide +kernel : ([⟨true, 0, 0, 0, 0⟩] : List Mv).map (freeP 1) = ([⟨true, 0, 0, 0, 0⟩] : List Mv))]
 refine RL.perm (L' := RegG rb A cp Lr (1) xs ([⟨true, 0, 0, 0, 0⟩]) ++ (Lo1 ++ Lst)) rfl (by classical exact List.perm_iff_count.2 (fun z => by simp only [List.count_append, List.count_cons, List.count_nil, List.cons_append, List.nil_append, List.set_cons_zero, List.set_cons_succ] <;> omega)) ?_
 refine RL.len rfl sl38 rfl ?_
 refine RL.cmp_f rfl rfl rfl rfl (by show ¬ ((_ : Int) ≠ _); decide) ?_
 refine RL.pick_f rfl rfl ?_
 refine RL.nil ?_
 refine X.cond_f rfl ?_
 refine X.skip ?_
 refine X.seq ?_
 refine X.region rfl ?_
 refine RL.move rfl ?_
 refine RL.fn (Lp := RegG rb A cp Lr (1) xs ([⟨true, 0, 0, 0, 0⟩])) (Lr := (Lo1 ++ Lst)) rfl rfl rfl en13 (List.Perm.refl _) (fun w1 hw1 => f_tick rb cp A Lr (1) xs ([⟨true, 0, 0, 0, 0⟩]) (by rw [hxl]; rfl) hx5 hrow w1 (fun p hp => hw1.own p (List.mem_append_left _ hp)) (hw1.nodup.sublist ((List.sublist_append_left _ _).map _))) rfl ?_
 rintro _ Lz ⟨rfl, rfl⟩
 rw [(by decide +kernel : ([⟨true, 0, 0, 0, 0⟩] : List Mv).map tickP = [⟨true, 0, 0, 0, 1⟩])]
 refine RL.nil ?_
 refine X.seq ?_
 refine X.region rfl ?_
 refine RL.move rfl ?_
 refine RL.fn (Lp := RegG rb A cp Lr (1) xs ([⟨true, 0, 0, 0, 1⟩])) (Lr := (Lo1 ++ Lst)) rfl rfl rfl en14 (List.Perm.refl _) (fun w1 hw1 => f_free rb cp A Lr (1) xs ([⟨true, 0, 0, 0, 1⟩]) (by rw [hxl]; rfl) hx5 hrow w1 (fun p hp => hw1.own p (List.mem_append_left _ hp)) (hw1.nodup.sublist ((List.sublist_append_left _ _).map _))) rfl ?_
 rintro _ Lz ⟨Ao2, co2, Lo2, rfl, hro2, rfl⟩
 rw [(by rw [hxl]; decide +kernel : freedP 1 [⟨true, 0, 0, 0, 1⟩] xs.length = [0])] at hro2 ⊢
 rw [(by decide +kernel : ([⟨true, 0, 0, 0, 1⟩] : List Mv).map (freeP 1) = [⟨false, 0, 0, 0, 0⟩])]
 refine RL.perm (L' := RegG rb A cp Lr (1) xs ([⟨false, 0, 0, 0, 0⟩]) ++ (Lo2 ++ (Lo1 ++ Lst))) rfl (by classical exact List.perm_iff_count.2 (fun z => by simp only [List.count_append, List.count_cons, List.count_nil, List.cons_append, List.nil_append, List.set_cons_zero, List.set_cons_succ] <;> omega)) ?_
 refine RL.bs1I rfl rfl sl38 zt3 rfl ?_
 intro bz hbz
 refine RL.fn0 rfl rfl rfl en17 (fun w1 hw1 => (f_sameints [0] [0] Ao2 (some ⟨bz, 0, none⟩) co2 1 w1 (by decide) (by decide) (row_rd hro2 hw1 (fun p hp => by simp [hp])) ⟨bz, 0, fun _ => rfl, by have := hw1.cellsO (b := bz) (t := 3) (l := [.int .i64 0]) (fr := (0, 0)) (by simp) 0; exact (by simpa using this : CellsAt w1 bz 0 [.int .i64 0])⟩).mono fun v L h => (by rw [h]; rfl : v = .bool true)) rfl ?_
 rintro _ _ rfl
 refine RL.drop rfl (List.sublist_append_right _ _) ?_
 refine RL.move rfl ?_
 refine RL.move rfl ?_
 refine RL.fn0 rfl rfl rfl en15 (fun w1 hw1 => (f_loaded 0 rb 1 xs [⟨false, 0, 0, 0, 0⟩] w1 (regG_reads hw1 hrow (by rw [hxl]; rfl) (fun p hp => List.mem_cons_of_mem _ (List.mem_append_left _ hp)))).mono fun v L h => (by rw [h]; rfl : v = .bool false)) rfl ?_
 rintro _ _ rfl
 refine RL.drop rfl (List.sublist_append_right _ _) ?_
 refine RL.not rfl rfl ?_
 refine RL.pick_t rfl rfl ?_
 refine RL.assign rfl ?_
 refine RL.nil ?_
 refine X.ret ?_
 exact ret1 rfl rfl
end Go.Proofs.Ytnebpklmbefmfaa

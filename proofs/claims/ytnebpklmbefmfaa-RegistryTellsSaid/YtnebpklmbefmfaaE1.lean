/- Modules that are the same. -/
import Derived.Test.YtnebpklmbefmfaaC1
set_option linter.unusedVariables false
set_option linter.unusedSimpArgs false
namespace Go.Proofs.Ytnebpklmbefmfaa
open Go.RowKit
attribute [local irreducible] X RL W Ctr
theorem f_samecode (l : List Ins) (hlen : l.length ≤ 1000) (A B : Option Addr) (c d : Nat) (w : World) (h1 : Rd w A (icells l)) (h2 : Rd w B (icells l)) :
    Ctr Try.prog 37 [.slice A l.length c, .slice B l.length d] w [] fun v _ => v = .bool true := by
 obtain ⟨bb, oo, hA0, hc⟩ := h1
 have hA : 0 < l.length → A = some ⟨bb, oo, none⟩ := fun h => hA0 (by rw [ecells_len Ins.len]; omega)
 obtain ⟨bb2, oo2, hB0, hc2⟩ := h2
 have hB : 0 < l.length → B = some ⟨bb2, oo2, none⟩ := fun h => hB0 (by rw [ecells_len Ins.len]; omega)
 refine Ctr.intro0 (n := 26) Try.func37 rfl Try.ntmps37 (Nat.le_of_ble_eq_true rfl) ?_
 refine X.seq ?_
 refine X.region rfl ?_
 refine RL.assign rfl ?_
 refine RL.nil ?_
 refine X.seq ?_
 refine X.seq ?_
 refine X.region rfl ?_
 refine RL.move rfl ?_
 refine RL.len rfl sl78 rfl ?_
 refine RL.move rfl ?_
 refine RL.len rfl sl78 rfl ?_
 refine RL.cmp_f rfl rfl rfl rfl (by show ¬ ((_ : Int) ≠ _); exact fun h => h rfl) ?_
 refine RL.nil ?_
 refine X.cond_f rfl ?_
 refine X.skip ?_
 refine X.seq ?_
 refine X.seq ?_
 refine X.region rfl ?_
 refine RL.assign rfl ?_
 refine RL.nil ?_
 refine X.block ?_
 refine X.loop (γ := Nat) (fun g ρ L => (g ≤ l.length) ∧ Has ρ [(0, .slice A l.length c), (1, .slice B l.length d), (5, .int .i64 g)] ∧ L = []) (fun g => l.length - g) (0) ⟨_, (by repeat (first | exact sb0 _ | exact sb1 _ | (rw [List.append_nil]; exact sb0 _) | exact sb2 _ _ | exact sb3 _ _ _ | apply sb4 | apply sb5 | apply sb6)), Nat.zero_le _, ⟨rfl, rfl, rfl, trivial⟩, rfl⟩ ?_
 rintro g _ _ ⟨q1, hρ, rfl⟩
 obtain ⟨base, rfl⟩ := hρ.base
 clear hρ
 refine X.seq ?_
 refine X.seq ?_
 refine X.region rfl ?_
 refine RL.move rfl ?_
 refine RL.move rfl ?_
 refine RL.len rfl sl78 rfl ?_
 refine RL.cmp_s rfl rfl rfl rfl (fun hlt => ?_) (fun hlt => ?_)
 ·replace hlt : (_ : Int) < _ := hlt
  obtain ⟨x, hx⟩ : ∃ x, l[g]? = some x := ⟨_, List.getElem?_eq_getElem (by omega)⟩
  refine RL.nil ?_
  refine X.cond_t rfl ?_
  refine X.skip ?_
  refine X.seq ?_
  refine X.block ?_
  refine X.seq ?_
  refine X.draw (by kernel_rfl) (by kernel_rfl) ?_
  refine RL.move rfl ?_
  refine RL.move rfl ?_
  refine RL.indexAddr rfl sl78 rfl rfl (hA (by omega)) rfl (by omega) ?_
  refine RL.loadIA rfl ag77 rfl (elem_at Ins.len hc hx) (by simp) (Ins.len _) ?_
  refine RL.move rfl ?_
  refine RL.move rfl ?_
  refine RL.indexAddr rfl sl78 rfl rfl (hB (by omega)) rfl (by omega) ?_
  refine RL.loadIA rfl ag77 rfl (elem_at Ins.len hc2 hx) (by simp) (Ins.len _) ?_
  refine RL.neA rfl eqg_ins rfl rfl (eq_ins x x) (fun hh => ?_) (fun hh => ?_)
  ·skip
   exact absurd rfl hh
  skip
  refine RL.nil ?_
  refine X.cond_f rfl ?_
  refine X.skip ?_
  refine X.blk ?_
  refine X.region rfl ?_
  refine RL.move rfl ?_
  refine RL.add rfl rfl rfl (by omega) ?_
  refine RL.assign rfl ?_
  refine RL.nil ?_
  refine X.hyp ⟨rfl, g + 1, by omega, _, (by repeat (first | exact sb0 _ | exact sb1 _ | (rw [List.append_nil]; exact sb0 _) | exact sb2 _ _ | exact sb3 _ _ _ | apply sb4 | apply sb5 | apply sb6)), by omega, ⟨rfl, rfl, rfl, trivial⟩, rfl⟩
 replace hlt : ¬ ((_ : Int) < _) := hlt
 refine RL.nil ?_
 refine X.cond_f rfl ?_
 refine X.exit rfl ?_
 refine X.seq ?_
 refine X.region rfl ?_
 refine RL.assign rfl ?_
 refine RL.nil ?_
 refine X.ret ?_
 exact ret1 rfl rfl
set_option maxHeartbeats 1000000 in
set_option maxRecDepth 10000 in
theorem f_same (m : List Cl) (hsz : ∀ c ∈ m, ClSz c) (hlen : m.length ≤ 1000) (A B : Option Addr) (n k : Nat) (w : World) (h1 : ModR w m A) (h2 : ModR w m B) :
    Ctr Try.prog 28 [.agg #[.slice A m.length n], .agg #[.slice B m.length k]] w [] fun v _ => v = .bool true := by
 obtain ⟨bb, oo, hA, hc⟩ := h1.open
 obtain ⟨bb2, oo2, hB, hc2⟩ := h2.open
 refine Ctr.intro0 (n := 101) Try.func28 rfl Try.ntmps28 (Nat.le_of_ble_eq_true rfl) ?_
 refine X.seq ?_
 refine X.region rfl ?_
 refine RL.boxA rfl rfl rfl ?_
 intro b2 hb2
 dsimp only at hb2
 refine RL.boxA rfl rfl rfl ?_
 intro b3 hb3
 dsimp only at hb3
 refine RL.assign rfl ?_
 refine RL.nil ?_
 refine X.seq ?_
 refine X.seq ?_
 refine X.region rfl ?_
 refine RL.fieldAddr rfl fd30_0 rfl ?_
 refine RL.loadO rfl sc28 rfl rfl ?_
 refine RL.len rfl sl28 rfl ?_
 refine RL.fieldAddr rfl fd30_0 rfl ?_
 refine RL.loadO rfl sc28 rfl rfl ?_
 refine RL.len rfl sl28 rfl ?_
 refine RL.cmp_f rfl rfl rfl rfl (by show ¬ ((_ : Int) ≠ _); exact fun h => h rfl) ?_
 refine RL.nil ?_
 refine X.cond_f rfl ?_
 refine X.skip ?_
 refine X.seq ?_
 refine X.seq ?_
 refine X.region rfl ?_
 refine RL.assign rfl ?_
 refine RL.nil ?_
 refine X.block ?_
 refine X.loop (γ := Nat) (fun g ρ L => (g ≤ m.length) ∧ Has ρ [(2, .pointer (some ⟨b2, 0, none⟩)), (3, .pointer (some ⟨b3, 0, none⟩)), (5, .int .i64 g)] ∧ L = [(b3, cel 30 [.slice B m.length k]), (b2, cel 30 [.slice A m.length n])]) (fun g => m.length - g) (0) ⟨_, (by repeat (first | exact sb0 _ | exact sb1 _ | (rw [List.append_nil]; exact sb0 _) | exact sb2 _ _ | exact sb3 _ _ _ | apply sb4 | apply sb5 | apply sb6)), Nat.zero_le _, ⟨rfl, rfl, rfl, trivial⟩, rfl⟩ ?_
 rintro g _ _ ⟨q1, hρ, rfl⟩
 obtain ⟨base, rfl⟩ := hρ.base
 clear hρ
 refine X.seq ?_
 refine X.seq ?_
 refine X.region rfl ?_
 refine RL.move rfl ?_
 refine RL.fieldAddr rfl fd30_0 rfl ?_
 refine RL.loadO rfl sc28 rfl rfl ?_
 refine RL.len rfl sl28 rfl ?_
 refine RL.cmp_s rfl rfl rfl rfl (fun hlt => ?_) (fun hlt => ?_)
 ·replace hlt : (_ : Int) < _ := hlt
  obtain ⟨cl, hcl⟩ : ∃ cl, m[g]? = some cl := ⟨_, List.getElem?_eq_getElem (by omega)⟩
  obtain ⟨cs, hcs, hcr⟩ := hc g cl hcl
  obtain ⟨cs2, hcs2, hcr2⟩ := hc2 g cl hcl
  have hcz := hsz cl (List.mem_of_getElem? hcl)
  have hfz := hcz.faces
  have hmz := hcz.methods
  have hl19 := hcr.len
  have hl192 := hcr2.len
  have hone := hcr.one
  have hone2 := hcr2.one
  refine RL.nil ?_
  refine X.cond_t rfl ?_
  refine X.skip ?_
  refine X.seq ?_
  refine X.block ?_
  refine X.seq ?_
  refine X.set [.val (.pointer (some ⟨b2, 0 + 0, none⟩)), .val (.slice A m.length n), .val (.int .i64 g), .val (.pointer (some ⟨bb, oo + g * 19, none⟩)), .val (.agg cs.toArray), .val (.pointer (some ⟨b3, 0 + 0, none⟩)), .val (.slice B m.length k), .val (.int .i64 g), .val (.pointer (some ⟨bb2, oo2 + g * 19, none⟩)), .val (.agg cs2.toArray), .any, .any, .any, .any] [[], [0], [], [0, 1, 2], [0, 1, 2, 3], [], [5], [], [5, 6, 7], [5, 6, 7, 8], [], [], [0, 1, 2, 3, 4, 10, 11], [0, 1, 2, 3, 4, 5, 6, 7, 8, 9, 10, 11, 12]] (fun D ρ L => (D 10 = false ∧ D 11 = false ∧ D 12 = false ∧ D 13 = false ∧ True ∧ Has ρ [] ∧ L.Perm (([]) ++ (([]) ++ (([(b3, cel 30 [.slice B m.length k])]) ++ ([(b2, cel 30 [.slice A m.length n])]))))) ∨ (D 10 = true ∧ D 11 = false ∧ D 12 = false ∧ D 13 = false ∧ True ∧ ∃ b6 : Nat, Has ρ [(6, .pointer (some ⟨b6, 0, none⟩))] ∧ L.Perm (([(b6, cel 69 [.int .u8 0, .int .u8 0, .int .u8 0, .int .u8 0, .int .u8 0, .int .u8 0, .int .u8 0, .int .u8 0, .int .u8 0, .int .u8 0, .int .u8 0, .int .u8 0, .int .u8 0, .int .u8 0, .int .u8 0, .int .u8 0, .slice none 0 0, .int .i64 0, .slice none 0 0])]) ++ (([]) ++ (([(b3, cel 30 [.slice B m.length k])]) ++ ([(b2, cel 30 [.slice A m.length n])]))))) ∨ (D 10 = false ∧ D 11 = true ∧ D 12 = false ∧ D 13 = false ∧ True ∧ ∃ b7 : Nat, Has ρ [(7, .pointer (some ⟨b7, 0, none⟩))] ∧ L.Perm (([]) ++ (([(b7, cel 69 [.int .u8 0, .int .u8 0, .int .u8 0, .int .u8 0, .int .u8 0, .int .u8 0, .int .u8 0, .int .u8 0, .int .u8 0, .int .u8 0, .int .u8 0, .int .u8 0, .int .u8 0, .int .u8 0, .int .u8 0, .int .u8 0, .slice none 0 0, .int .i64 0, .slice none 0 0])]) ++ (([(b3, cel 30 [.slice B m.length k])]) ++ ([(b2, cel 30 [.slice A m.length n])]))))) ∨ (D 10 = true ∧ D 11 = true ∧ D 12 = false ∧ D 13 = false ∧ True ∧ ∃ b6 : Nat, ∃ b7 : Nat, Has ρ [(6, .pointer (some ⟨b6, 0, none⟩)), (7, .pointer (some ⟨b7, 0, none⟩))] ∧ L.Perm (([(b6, cel 69 [.int .u8 0, .int .u8 0, .int .u8 0, .int .u8 0, .int .u8 0, .int .u8 0, .int .u8 0, .int .u8 0, .int .u8 0, .int .u8 0, .int .u8 0, .int .u8 0, .int .u8 0, .int .u8 0, .int .u8 0, .int .u8 0, .slice none 0 0, .int .i64 0, .slice none 0 0])]) ++ (([(b7, cel 69 [.int .u8 0, .int .u8 0, .int .u8 0, .int .u8 0, .int .u8 0, .int .u8 0, .int .u8 0, .int .u8 0, .int .u8 0, .int .u8 0, .int .u8 0, .int .u8 0, .int .u8 0, .int .u8 0, .int .u8 0, .int .u8 0, .slice none 0 0, .int .i64 0, .slice none 0 0])]) ++ (([(b3, cel 30 [.slice B m.length k])]) ++ ([(b2, cel 30 [.slice A m.length n])]))))) ∨ (D 10 = true ∧ D 11 = true ∧ D 12 = true ∧ D 13 = false ∧ True ∧ ∃ b6 : Nat, ∃ b7 : Nat, Has ρ [(6, .pointer (some ⟨b6, 0, none⟩)), (7, .pointer (some ⟨b7, 0, none⟩))] ∧ L.Perm (([(b6, cel 69 cs)]) ++ (([(b7, cel 69 [.int .u8 0, .int .u8 0, .int .u8 0, .int .u8 0, .int .u8 0, .int .u8 0, .int .u8 0, .int .u8 0, .int .u8 0, .int .u8 0, .int .u8 0, .int .u8 0, .int .u8 0, .int .u8 0, .int .u8 0, .int .u8 0, .slice none 0 0, .int .i64 0, .slice none 0 0])]) ++ (([(b3, cel 30 [.slice B m.length k])]) ++ ([(b2, cel 30 [.slice A m.length n])]))))) ∨ (D 10 = true ∧ D 11 = true ∧ D 12 = true ∧ D 13 = true ∧ True ∧ ∃ b6 : Nat, ∃ b7 : Nat, Has ρ [(6, .pointer (some ⟨b6, 0, none⟩)), (7, .pointer (some ⟨b7, 0, none⟩))] ∧ L.Perm (([(b6, cel 69 cs)]) ++ (([(b7, cel 69 cs2)]) ++ (([(b3, cel 30 [.slice B m.length k])]) ++ ([(b2, cel 30 [.slice A m.length n])])))))) rfl (by kernel_rfl) (by kernel_rfl) (by kernel_rfl) (by kernel_rfl) (fun D hD => .inl ⟨hD 10, hD 11, hD 12, hD 13, trivial, trivial, (List.Perm.refl _)⟩) ⟨?_, ?_, ?_, ?_, ?_, ?_, ?_, ?_, ?_, ?_, ?_, ?_, ?_, ?_, trivial⟩ ?_
  ·intro ρ L D hS
   rcases hS.sp with ⟨e10, e11, e12, e13, -, hρ, hL⟩ | ⟨e10, e11, e12, e13, -, b6, hρ, hL⟩ | ⟨e10, e11, e12, e13, -, b7, hρ, hL⟩ | ⟨e10, e11, e12, e13, -, b6, b7, hρ, hL⟩ | ⟨e10, e11, e12, e13, -, b6, b7, hρ, hL⟩ | ⟨e10, e11, e12, e13, -, b6, b7, hρ, hL⟩
   ·have u2 : ρ 2 = .pointer (some ⟨b2, 0, none⟩) := hS.fix 2 (by decide)
    clear hS hρ
    obtain ⟨base, rfl⟩ := Has.base (ρ := ρ) (l := [(2, .pointer (some ⟨b2, 0, none⟩))]) ⟨u2, trivial⟩
    clear u2
    refine RL.perm rfl hL.symm ?_
    clear hL
    refine RL.fieldAddr rfl fd30_0 rfl ?_
    refine RL.nil ?_
    exact ⟨rfl, ⟨_, rfl, rfl⟩, .inl ⟨e10, e11, e12, e13, trivial, trivial, List.Perm.refl _⟩⟩
   ·have u2 : ρ 2 = .pointer (some ⟨b2, 0, none⟩) := hS.fix 2 (by decide)
    have u6 : ρ 6 = .pointer (some ⟨b6, 0, none⟩) := hρ.1
    clear hS hρ
    obtain ⟨base, rfl⟩ := Has.base (ρ := ρ) (l := [(2, .pointer (some ⟨b2, 0, none⟩)), (6, .pointer (some ⟨b6, 0, none⟩))]) ⟨u2, u6, trivial⟩
    clear u2 u6
    refine RL.perm rfl hL.symm ?_
    clear hL
    refine RL.fieldAddr rfl fd30_0 rfl ?_
    refine RL.nil ?_
    exact ⟨rfl, ⟨_, rfl, rfl⟩, .inr (.inl ⟨e10, e11, e12, e13, trivial, b6, ⟨rfl, trivial⟩, List.Perm.refl _⟩)⟩
   ·have u2 : ρ 2 = .pointer (some ⟨b2, 0, none⟩) := hS.fix 2 (by decide)
    have u7 : ρ 7 = .pointer (some ⟨b7, 0, none⟩) := hρ.1
    clear hS hρ
    obtain ⟨base, rfl⟩ := Has.base (ρ := ρ) (l := [(2, .pointer (some ⟨b2, 0, none⟩)), (7, .pointer (some ⟨b7, 0, none⟩))]) ⟨u2, u7, trivial⟩
    clear u2 u7
    refine RL.perm rfl hL.symm ?_
    clear hL
    refine RL.fieldAddr rfl fd30_0 rfl ?_
    refine RL.nil ?_
    exact ⟨rfl, ⟨_, rfl, rfl⟩, .inr (.inr (.inl ⟨e10, e11, e12, e13, trivial, b7, ⟨rfl, trivial⟩, List.Perm.refl _⟩))⟩
   ·have u2 : ρ 2 = .pointer (some ⟨b2, 0, none⟩) := hS.fix 2 (by decide)
    have u6 : ρ 6 = .pointer (some ⟨b6, 0, none⟩) := hρ.1
    have u7 : ρ 7 = .pointer (some ⟨b7, 0, none⟩) := hρ.2.1
    clear hS hρ
    obtain ⟨base, rfl⟩ := Has.base (ρ := ρ) (l := [(2, .pointer (some ⟨b2, 0, none⟩)), (6, .pointer (some ⟨b6, 0, none⟩)), (7, .pointer (some ⟨b7, 0, none⟩))]) ⟨u2, u6, u7, trivial⟩
    clear u2 u6 u7
    refine RL.perm rfl hL.symm ?_
    clear hL
    refine RL.fieldAddr rfl fd30_0 rfl ?_
    refine RL.nil ?_
    exact ⟨rfl, ⟨_, rfl, rfl⟩, .inr (.inr (.inr (.inl ⟨e10, e11, e12, e13, trivial, b6, b7, ⟨rfl, rfl, trivial⟩, List.Perm.refl _⟩)))⟩
   ·exact hS.hi 12 rfl (by kernel_rfl) e12
   exact hS.hi 12 rfl (by kernel_rfl) e12
  ·intro ρ L D hS
   rcases hS.sp with ⟨e10, e11, e12, e13, -, hρ, hL⟩ | ⟨e10, e11, e12, e13, -, b6, hρ, hL⟩ | ⟨e10, e11, e12, e13, -, b7, hρ, hL⟩ | ⟨e10, e11, e12, e13, -, b6, b7, hρ, hL⟩ | ⟨e10, e11, e12, e13, -, b6, b7, hρ, hL⟩ | ⟨e10, e11, e12, e13, -, b6, b7, hρ, hL⟩
   ·have u24 : ρ 24 = .pointer (some ⟨b2, 0 + 0, none⟩) := hS.dep ⟨0, Ground.data⟩ (by simp) rfl _ _ rfl rfl
    clear hS hρ
    obtain ⟨base, rfl⟩ := Has.base (ρ := ρ) (l := [(24, .pointer (some ⟨b2, 0 + 0, none⟩))]) ⟨u24, trivial⟩
    clear u24
    refine RL.perm rfl hL.symm ?_
    clear hL
    refine RL.loadO rfl sc28 rfl rfl ?_
    refine RL.nil ?_
    exact ⟨rfl, ⟨_, rfl, rfl⟩, .inl ⟨e10, e11, e12, e13, trivial, trivial, List.Perm.refl _⟩⟩
   ·have u6 : ρ 6 = .pointer (some ⟨b6, 0, none⟩) := hρ.1
    have u24 : ρ 24 = .pointer (some ⟨b2, 0 + 0, none⟩) := hS.dep ⟨0, Ground.data⟩ (by simp) rfl _ _ rfl rfl
    clear hS hρ
    obtain ⟨base, rfl⟩ := Has.base (ρ := ρ) (l := [(6, .pointer (some ⟨b6, 0, none⟩)), (24, .pointer (some ⟨b2, 0 + 0, none⟩))]) ⟨u6, u24, trivial⟩
    clear u6 u24
    refine RL.perm rfl hL.symm ?_
    clear hL
    refine RL.loadO rfl sc28 rfl rfl ?_
    refine RL.nil ?_
    exact ⟨rfl, ⟨_, rfl, rfl⟩, .inr (.inl ⟨e10, e11, e12, e13, trivial, b6, ⟨rfl, trivial⟩, List.Perm.refl _⟩)⟩
   ·have u7 : ρ 7 = .pointer (some ⟨b7, 0, none⟩) := hρ.1
    have u24 : ρ 24 = .pointer (some ⟨b2, 0 + 0, none⟩) := hS.dep ⟨0, Ground.data⟩ (by simp) rfl _ _ rfl rfl
    clear hS hρ
    obtain ⟨base, rfl⟩ := Has.base (ρ := ρ) (l := [(7, .pointer (some ⟨b7, 0, none⟩)), (24, .pointer (some ⟨b2, 0 + 0, none⟩))]) ⟨u7, u24, trivial⟩
    clear u7 u24
    refine RL.perm rfl hL.symm ?_
    clear hL
    refine RL.loadO rfl sc28 rfl rfl ?_
    refine RL.nil ?_
    exact ⟨rfl, ⟨_, rfl, rfl⟩, .inr (.inr (.inl ⟨e10, e11, e12, e13, trivial, b7, ⟨rfl, trivial⟩, List.Perm.refl _⟩))⟩
   ·have u6 : ρ 6 = .pointer (some ⟨b6, 0, none⟩) := hρ.1
    have u7 : ρ 7 = .pointer (some ⟨b7, 0, none⟩) := hρ.2.1
    have u24 : ρ 24 = .pointer (some ⟨b2, 0 + 0, none⟩) := hS.dep ⟨0, Ground.data⟩ (by simp) rfl _ _ rfl rfl
    clear hS hρ
    obtain ⟨base, rfl⟩ := Has.base (ρ := ρ) (l := [(6, .pointer (some ⟨b6, 0, none⟩)), (7, .pointer (some ⟨b7, 0, none⟩)), (24, .pointer (some ⟨b2, 0 + 0, none⟩))]) ⟨u6, u7, u24, trivial⟩
    clear u6 u7 u24
    refine RL.perm rfl hL.symm ?_
    clear hL
    refine RL.loadO rfl sc28 rfl rfl ?_
    refine RL.nil ?_
    exact ⟨rfl, ⟨_, rfl, rfl⟩, .inr (.inr (.inr (.inl ⟨e10, e11, e12, e13, trivial, b6, b7, ⟨rfl, rfl, trivial⟩, List.Perm.refl _⟩)))⟩
   ·exact hS.hi 12 rfl (by kernel_rfl) e12
   exact hS.hi 12 rfl (by kernel_rfl) e12
  ·intro ρ L D hS
   rcases hS.sp with ⟨e10, e11, e12, e13, -, hρ, hL⟩ | ⟨e10, e11, e12, e13, -, b6, hρ, hL⟩ | ⟨e10, e11, e12, e13, -, b7, hρ, hL⟩ | ⟨e10, e11, e12, e13, -, b6, b7, hρ, hL⟩ | ⟨e10, e11, e12, e13, -, b6, b7, hρ, hL⟩ | ⟨e10, e11, e12, e13, -, b6, b7, hρ, hL⟩
   ·have u5 : ρ 5 = .int .i64 g := hS.fix 5 (by decide)
    clear hS hρ
    obtain ⟨base, rfl⟩ := Has.base (ρ := ρ) (l := [(5, .int .i64 g)]) ⟨u5, trivial⟩
    clear u5
    refine RL.perm rfl hL.symm ?_
    clear hL
    refine RL.move rfl ?_
    refine RL.nil ?_
    exact ⟨rfl, ⟨_, rfl, rfl⟩, .inl ⟨e10, e11, e12, e13, trivial, trivial, List.Perm.refl _⟩⟩
   ·have u5 : ρ 5 = .int .i64 g := hS.fix 5 (by decide)
    have u6 : ρ 6 = .pointer (some ⟨b6, 0, none⟩) := hρ.1
    clear hS hρ
    obtain ⟨base, rfl⟩ := Has.base (ρ := ρ) (l := [(5, .int .i64 g), (6, .pointer (some ⟨b6, 0, none⟩))]) ⟨u5, u6, trivial⟩
    clear u5 u6
    refine RL.perm rfl hL.symm ?_
    clear hL
    refine RL.move rfl ?_
    refine RL.nil ?_
    exact ⟨rfl, ⟨_, rfl, rfl⟩, .inr (.inl ⟨e10, e11, e12, e13, trivial, b6, ⟨rfl, trivial⟩, List.Perm.refl _⟩)⟩
   ·have u5 : ρ 5 = .int .i64 g := hS.fix 5 (by decide)
    have u7 : ρ 7 = .pointer (some ⟨b7, 0, none⟩) := hρ.1
    clear hS hρ
    obtain ⟨base, rfl⟩ := Has.base (ρ := ρ) (l := [(5, .int .i64 g), (7, .pointer (some ⟨b7, 0, none⟩))]) ⟨u5, u7, trivial⟩
    clear u5 u7
    refine RL.perm rfl hL.symm ?_
    clear hL
    refine RL.move rfl ?_
    refine RL.nil ?_
    exact ⟨rfl, ⟨_, rfl, rfl⟩, .inr (.inr (.inl ⟨e10, e11, e12, e13, trivial, b7, ⟨rfl, trivial⟩, List.Perm.refl _⟩))⟩
   ·have u5 : ρ 5 = .int .i64 g := hS.fix 5 (by decide)
    have u6 : ρ 6 = .pointer (some ⟨b6, 0, none⟩) := hρ.1
    have u7 : ρ 7 = .pointer (some ⟨b7, 0, none⟩) := hρ.2.1
    clear hS hρ
    obtain ⟨base, rfl⟩ := Has.base (ρ := ρ) (l := [(5, .int .i64 g), (6, .pointer (some ⟨b6, 0, none⟩)), (7, .pointer (some ⟨b7, 0, none⟩))]) ⟨u5, u6, u7, trivial⟩
    clear u5 u6 u7
    refine RL.perm rfl hL.symm ?_
    clear hL
    refine RL.move rfl ?_
    refine RL.nil ?_
    exact ⟨rfl, ⟨_, rfl, rfl⟩, .inr (.inr (.inr (.inl ⟨e10, e11, e12, e13, trivial, b6, b7, ⟨rfl, rfl, trivial⟩, List.Perm.refl _⟩)))⟩
   ·exact hS.hi 12 rfl (by kernel_rfl) e12
   exact hS.hi 12 rfl (by kernel_rfl) e12
  ·intro ρ L D hS
   rcases hS.sp with ⟨e10, e11, e12, e13, -, hρ, hL⟩ | ⟨e10, e11, e12, e13, -, b6, hρ, hL⟩ | ⟨e10, e11, e12, e13, -, b7, hρ, hL⟩ | ⟨e10, e11, e12, e13, -, b6, b7, hρ, hL⟩ | ⟨e10, e11, e12, e13, -, b6, b7, hρ, hL⟩ | ⟨e10, e11, e12, e13, -, b6, b7, hρ, hL⟩
   ·have u25 : ρ 25 = .slice A m.length n := hS.dep ⟨1, Ground.data⟩ (by simp) rfl _ _ rfl rfl
    have u26 : ρ 26 = .int .i64 g := hS.dep ⟨2, Ground.data⟩ (by simp) rfl _ _ rfl rfl
    clear hS hρ
    obtain ⟨base, rfl⟩ := Has.base (ρ := ρ) (l := [(25, .slice A m.length n), (26, .int .i64 g)]) ⟨u25, u26, trivial⟩
    clear u25 u26
    refine RL.perm rfl hL.symm ?_
    clear hL
    refine RL.indexAddr rfl sl28 rfl rfl (hA (by omega)) rfl (by omega) ?_
    refine RL.nil ?_
    exact ⟨rfl, ⟨_, rfl, rfl⟩, .inl ⟨e10, e11, e12, e13, trivial, trivial, List.Perm.refl _⟩⟩
   ·have u6 : ρ 6 = .pointer (some ⟨b6, 0, none⟩) := hρ.1
    have u25 : ρ 25 = .slice A m.length n := hS.dep ⟨1, Ground.data⟩ (by simp) rfl _ _ rfl rfl
    have u26 : ρ 26 = .int .i64 g := hS.dep ⟨2, Ground.data⟩ (by simp) rfl _ _ rfl rfl
    clear hS hρ
    obtain ⟨base, rfl⟩ := Has.base (ρ := ρ) (l := [(6, .pointer (some ⟨b6, 0, none⟩)), (25, .slice A m.length n), (26, .int .i64 g)]) ⟨u6, u25, u26, trivial⟩
    clear u6 u25 u26
    refine RL.perm rfl hL.symm ?_
    clear hL
    refine RL.indexAddr rfl sl28 rfl rfl (hA (by omega)) rfl (by omega) ?_
    refine RL.nil ?_
    exact ⟨rfl, ⟨_, rfl, rfl⟩, .inr (.inl ⟨e10, e11, e12, e13, trivial, b6, ⟨rfl, trivial⟩, List.Perm.refl _⟩)⟩
   ·have u7 : ρ 7 = .pointer (some ⟨b7, 0, none⟩) := hρ.1
    have u25 : ρ 25 = .slice A m.length n := hS.dep ⟨1, Ground.data⟩ (by simp) rfl _ _ rfl rfl
    have u26 : ρ 26 = .int .i64 g := hS.dep ⟨2, Ground.data⟩ (by simp) rfl _ _ rfl rfl
    clear hS hρ
    obtain ⟨base, rfl⟩ := Has.base (ρ := ρ) (l := [(7, .pointer (some ⟨b7, 0, none⟩)), (25, .slice A m.length n), (26, .int .i64 g)]) ⟨u7, u25, u26, trivial⟩
    clear u7 u25 u26
    refine RL.perm rfl hL.symm ?_
    clear hL
    refine RL.indexAddr rfl sl28 rfl rfl (hA (by omega)) rfl (by omega) ?_
    refine RL.nil ?_
    exact ⟨rfl, ⟨_, rfl, rfl⟩, .inr (.inr (.inl ⟨e10, e11, e12, e13, trivial, b7, ⟨rfl, trivial⟩, List.Perm.refl _⟩))⟩
   ·have u6 : ρ 6 = .pointer (some ⟨b6, 0, none⟩) := hρ.1
    have u7 : ρ 7 = .pointer (some ⟨b7, 0, none⟩) := hρ.2.1
    have u25 : ρ 25 = .slice A m.length n := hS.dep ⟨1, Ground.data⟩ (by simp) rfl _ _ rfl rfl
    have u26 : ρ 26 = .int .i64 g := hS.dep ⟨2, Ground.data⟩ (by simp) rfl _ _ rfl rfl
    clear hS hρ
    obtain ⟨base, rfl⟩ := Has.base (ρ := ρ) (l := [(6, .pointer (some ⟨b6, 0, none⟩)), (7, .pointer (some ⟨b7, 0, none⟩)), (25, .slice A m.length n), (26, .int .i64 g)]) ⟨u6, u7, u25, u26, trivial⟩
    clear u6 u7 u25 u26
    refine RL.perm rfl hL.symm ?_
    clear hL
    refine RL.indexAddr rfl sl28 rfl rfl (hA (by omega)) rfl (by omega) ?_
    refine RL.nil ?_
    exact ⟨rfl, ⟨_, rfl, rfl⟩, .inr (.inr (.inr (.inl ⟨e10, e11, e12, e13, trivial, b6, b7, ⟨rfl, rfl, trivial⟩, List.Perm.refl _⟩)))⟩
   ·exact hS.hi 12 rfl (by kernel_rfl) e12
   exact hS.hi 12 rfl (by kernel_rfl) e12
  ·intro ρ L D hS
   rcases hS.sp with ⟨e10, e11, e12, e13, -, hρ, hL⟩ | ⟨e10, e11, e12, e13, -, b6, hρ, hL⟩ | ⟨e10, e11, e12, e13, -, b7, hρ, hL⟩ | ⟨e10, e11, e12, e13, -, b6, b7, hρ, hL⟩ | ⟨e10, e11, e12, e13, -, b6, b7, hρ, hL⟩ | ⟨e10, e11, e12, e13, -, b6, b7, hρ, hL⟩
   ·have u27 : ρ 27 = .pointer (some ⟨bb, oo + g * 19, none⟩) := hS.dep ⟨3, Ground.data⟩ (by simp) rfl _ _ rfl rfl
    clear hS hρ
    obtain ⟨base, rfl⟩ := Has.base (ρ := ρ) (l := [(27, .pointer (some ⟨bb, oo + g * 19, none⟩))]) ⟨u27, trivial⟩
    clear u27
    refine RL.perm rfl hL.symm ?_
    clear hL
    refine RL.loadIA rfl ag69 rfl hcs (by simp) hl19 ?_
    refine RL.nil ?_
    exact ⟨rfl, ⟨_, rfl, rfl⟩, .inl ⟨e10, e11, e12, e13, trivial, trivial, List.Perm.refl _⟩⟩
   ·have u6 : ρ 6 = .pointer (some ⟨b6, 0, none⟩) := hρ.1
    have u27 : ρ 27 = .pointer (some ⟨bb, oo + g * 19, none⟩) := hS.dep ⟨3, Ground.data⟩ (by simp) rfl _ _ rfl rfl
    clear hS hρ
    obtain ⟨base, rfl⟩ := Has.base (ρ := ρ) (l := [(6, .pointer (some ⟨b6, 0, none⟩)), (27, .pointer (some ⟨bb, oo + g * 19, none⟩))]) ⟨u6, u27, trivial⟩
    clear u6 u27
    refine RL.perm rfl hL.symm ?_
    clear hL
    refine RL.loadIA rfl ag69 rfl hcs (by simp) hl19 ?_
    refine RL.nil ?_
    exact ⟨rfl, ⟨_, rfl, rfl⟩, .inr (.inl ⟨e10, e11, e12, e13, trivial, b6, ⟨rfl, trivial⟩, List.Perm.refl _⟩)⟩
   ·have u7 : ρ 7 = .pointer (some ⟨b7, 0, none⟩) := hρ.1
    have u27 : ρ 27 = .pointer (some ⟨bb, oo + g * 19, none⟩) := hS.dep ⟨3, Ground.data⟩ (by simp) rfl _ _ rfl rfl
    clear hS hρ
    obtain ⟨base, rfl⟩ := Has.base (ρ := ρ) (l := [(7, .pointer (some ⟨b7, 0, none⟩)), (27, .pointer (some ⟨bb, oo + g * 19, none⟩))]) ⟨u7, u27, trivial⟩
    clear u7 u27
    refine RL.perm rfl hL.symm ?_
    clear hL
    refine RL.loadIA rfl ag69 rfl hcs (by simp) hl19 ?_
    refine RL.nil ?_
    exact ⟨rfl, ⟨_, rfl, rfl⟩, .inr (.inr (.inl ⟨e10, e11, e12, e13, trivial, b7, ⟨rfl, trivial⟩, List.Perm.refl _⟩))⟩
   ·have u6 : ρ 6 = .pointer (some ⟨b6, 0, none⟩) := hρ.1
    have u7 : ρ 7 = .pointer (some ⟨b7, 0, none⟩) := hρ.2.1
    have u27 : ρ 27 = .pointer (some ⟨bb, oo + g * 19, none⟩) := hS.dep ⟨3, Ground.data⟩ (by simp) rfl _ _ rfl rfl
    clear hS hρ
    obtain ⟨base, rfl⟩ := Has.base (ρ := ρ) (l := [(6, .pointer (some ⟨b6, 0, none⟩)), (7, .pointer (some ⟨b7, 0, none⟩)), (27, .pointer (some ⟨bb, oo + g * 19, none⟩))]) ⟨u6, u7, u27, trivial⟩
    clear u6 u7 u27
    refine RL.perm rfl hL.symm ?_
    clear hL
    refine RL.loadIA rfl ag69 rfl hcs (by simp) hl19 ?_
    refine RL.nil ?_
    exact ⟨rfl, ⟨_, rfl, rfl⟩, .inr (.inr (.inr (.inl ⟨e10, e11, e12, e13, trivial, b6, b7, ⟨rfl, rfl, trivial⟩, List.Perm.refl _⟩)))⟩
   ·exact hS.hi 12 rfl (by kernel_rfl) e12
   exact hS.hi 12 rfl (by kernel_rfl) e12
  ·intro ρ L D hS
   rcases hS.sp with ⟨e10, e11, e12, e13, -, hρ, hL⟩ | ⟨e10, e11, e12, e13, -, b6, hρ, hL⟩ | ⟨e10, e11, e12, e13, -, b7, hρ, hL⟩ | ⟨e10, e11, e12, e13, -, b6, b7, hρ, hL⟩ | ⟨e10, e11, e12, e13, -, b6, b7, hρ, hL⟩ | ⟨e10, e11, e12, e13, -, b6, b7, hρ, hL⟩
   ·have u3 : ρ 3 = .pointer (some ⟨b3, 0, none⟩) := hS.fix 3 (by decide)
    clear hS hρ
    obtain ⟨base, rfl⟩ := Has.base (ρ := ρ) (l := [(3, .pointer (some ⟨b3, 0, none⟩))]) ⟨u3, trivial⟩
    clear u3
    refine RL.perm rfl hL.symm ?_
    clear hL
    refine RL.fieldAddr rfl fd30_0 rfl ?_
    refine RL.nil ?_
    exact ⟨rfl, ⟨_, rfl, rfl⟩, .inl ⟨e10, e11, e12, e13, trivial, trivial, List.Perm.refl _⟩⟩
   ·have u3 : ρ 3 = .pointer (some ⟨b3, 0, none⟩) := hS.fix 3 (by decide)
    have u6 : ρ 6 = .pointer (some ⟨b6, 0, none⟩) := hρ.1
    clear hS hρ
    obtain ⟨base, rfl⟩ := Has.base (ρ := ρ) (l := [(3, .pointer (some ⟨b3, 0, none⟩)), (6, .pointer (some ⟨b6, 0, none⟩))]) ⟨u3, u6, trivial⟩
    clear u3 u6
    refine RL.perm rfl hL.symm ?_
    clear hL
    refine RL.fieldAddr rfl fd30_0 rfl ?_
    refine RL.nil ?_
    exact ⟨rfl, ⟨_, rfl, rfl⟩, .inr (.inl ⟨e10, e11, e12, e13, trivial, b6, ⟨rfl, trivial⟩, List.Perm.refl _⟩)⟩
   ·have u3 : ρ 3 = .pointer (some ⟨b3, 0, none⟩) := hS.fix 3 (by decide)
    have u7 : ρ 7 = .pointer (some ⟨b7, 0, none⟩) := hρ.1
    clear hS hρ
    obtain ⟨base, rfl⟩ := Has.base (ρ := ρ) (l := [(3, .pointer (some ⟨b3, 0, none⟩)), (7, .pointer (some ⟨b7, 0, none⟩))]) ⟨u3, u7, trivial⟩
    clear u3 u7
    refine RL.perm rfl hL.symm ?_
    clear hL
    refine RL.fieldAddr rfl fd30_0 rfl ?_
    refine RL.nil ?_
    exact ⟨rfl, ⟨_, rfl, rfl⟩, .inr (.inr (.inl ⟨e10, e11, e12, e13, trivial, b7, ⟨rfl, trivial⟩, List.Perm.refl _⟩))⟩
   ·have u3 : ρ 3 = .pointer (some ⟨b3, 0, none⟩) := hS.fix 3 (by decide)
    have u6 : ρ 6 = .pointer (some ⟨b6, 0, none⟩) := hρ.1
    have u7 : ρ 7 = .pointer (some ⟨b7, 0, none⟩) := hρ.2.1
    clear hS hρ
    obtain ⟨base, rfl⟩ := Has.base (ρ := ρ) (l := [(3, .pointer (some ⟨b3, 0, none⟩)), (6, .pointer (some ⟨b6, 0, none⟩)), (7, .pointer (some ⟨b7, 0, none⟩))]) ⟨u3, u6, u7, trivial⟩
    clear u3 u6 u7
    refine RL.perm rfl hL.symm ?_
    clear hL
    refine RL.fieldAddr rfl fd30_0 rfl ?_
    refine RL.nil ?_
    exact ⟨rfl, ⟨_, rfl, rfl⟩, .inr (.inr (.inr (.inl ⟨e10, e11, e12, e13, trivial, b6, b7, ⟨rfl, rfl, trivial⟩, List.Perm.refl _⟩)))⟩
   ·have u3 : ρ 3 = .pointer (some ⟨b3, 0, none⟩) := hS.fix 3 (by decide)
    have u6 : ρ 6 = .pointer (some ⟨b6, 0, none⟩) := hρ.1
    have u7 : ρ 7 = .pointer (some ⟨b7, 0, none⟩) := hρ.2.1
    clear hS hρ
    obtain ⟨base, rfl⟩ := Has.base (ρ := ρ) (l := [(3, .pointer (some ⟨b3, 0, none⟩)), (6, .pointer (some ⟨b6, 0, none⟩)), (7, .pointer (some ⟨b7, 0, none⟩))]) ⟨u3, u6, u7, trivial⟩
    clear u3 u6 u7
    refine RL.perm rfl hL.symm ?_
    clear hL
    refine RL.fieldAddr rfl fd30_0 rfl ?_
    refine RL.nil ?_
    exact ⟨rfl, ⟨_, rfl, rfl⟩, .inr (.inr (.inr (.inr (.inl ⟨e10, e11, e12, e13, trivial, b6, b7, ⟨rfl, rfl, trivial⟩, List.Perm.refl _⟩))))⟩
   exact hS.hi 13 rfl (by kernel_rfl) e13
  ·intro ρ L D hS
   rcases hS.sp with ⟨e10, e11, e12, e13, -, hρ, hL⟩ | ⟨e10, e11, e12, e13, -, b6, hρ, hL⟩ | ⟨e10, e11, e12, e13, -, b7, hρ, hL⟩ | ⟨e10, e11, e12, e13, -, b6, b7, hρ, hL⟩ | ⟨e10, e11, e12, e13, -, b6, b7, hρ, hL⟩ | ⟨e10, e11, e12, e13, -, b6, b7, hρ, hL⟩
   ·have u29 : ρ 29 = .pointer (some ⟨b3, 0 + 0, none⟩) := hS.dep ⟨5, Ground.data⟩ (by simp) rfl _ _ rfl rfl
    clear hS hρ
    obtain ⟨base, rfl⟩ := Has.base (ρ := ρ) (l := [(29, .pointer (some ⟨b3, 0 + 0, none⟩))]) ⟨u29, trivial⟩
    clear u29
    refine RL.perm rfl hL.symm ?_
    clear hL
    refine RL.loadO rfl sc28 rfl rfl ?_
    refine RL.nil ?_
    exact ⟨rfl, ⟨_, rfl, rfl⟩, .inl ⟨e10, e11, e12, e13, trivial, trivial, List.Perm.refl _⟩⟩
   ·have u6 : ρ 6 = .pointer (some ⟨b6, 0, none⟩) := hρ.1
    have u29 : ρ 29 = .pointer (some ⟨b3, 0 + 0, none⟩) := hS.dep ⟨5, Ground.data⟩ (by simp) rfl _ _ rfl rfl
    clear hS hρ
    obtain ⟨base, rfl⟩ := Has.base (ρ := ρ) (l := [(6, .pointer (some ⟨b6, 0, none⟩)), (29, .pointer (some ⟨b3, 0 + 0, none⟩))]) ⟨u6, u29, trivial⟩
    clear u6 u29
    refine RL.perm rfl hL.symm ?_
    clear hL
    refine RL.loadO rfl sc28 rfl rfl ?_
    refine RL.nil ?_
    exact ⟨rfl, ⟨_, rfl, rfl⟩, .inr (.inl ⟨e10, e11, e12, e13, trivial, b6, ⟨rfl, trivial⟩, List.Perm.refl _⟩)⟩
   ·have u7 : ρ 7 = .pointer (some ⟨b7, 0, none⟩) := hρ.1
    have u29 : ρ 29 = .pointer (some ⟨b3, 0 + 0, none⟩) := hS.dep ⟨5, Ground.data⟩ (by simp) rfl _ _ rfl rfl
    clear hS hρ
    obtain ⟨base, rfl⟩ := Has.base (ρ := ρ) (l := [(7, .pointer (some ⟨b7, 0, none⟩)), (29, .pointer (some ⟨b3, 0 + 0, none⟩))]) ⟨u7, u29, trivial⟩
    clear u7 u29
    refine RL.perm rfl hL.symm ?_
    clear hL
    refine RL.loadO rfl sc28 rfl rfl ?_
    refine RL.nil ?_
    exact ⟨rfl, ⟨_, rfl, rfl⟩, .inr (.inr (.inl ⟨e10, e11, e12, e13, trivial, b7, ⟨rfl, trivial⟩, List.Perm.refl _⟩))⟩
   ·have u6 : ρ 6 = .pointer (some ⟨b6, 0, none⟩) := hρ.1
    have u7 : ρ 7 = .pointer (some ⟨b7, 0, none⟩) := hρ.2.1
    have u29 : ρ 29 = .pointer (some ⟨b3, 0 + 0, none⟩) := hS.dep ⟨5, Ground.data⟩ (by simp) rfl _ _ rfl rfl
    clear hS hρ
    obtain ⟨base, rfl⟩ := Has.base (ρ := ρ) (l := [(6, .pointer (some ⟨b6, 0, none⟩)), (7, .pointer (some ⟨b7, 0, none⟩)), (29, .pointer (some ⟨b3, 0 + 0, none⟩))]) ⟨u6, u7, u29, trivial⟩
    clear u6 u7 u29
    refine RL.perm rfl hL.symm ?_
    clear hL
    refine RL.loadO rfl sc28 rfl rfl ?_
    refine RL.nil ?_
    exact ⟨rfl, ⟨_, rfl, rfl⟩, .inr (.inr (.inr (.inl ⟨e10, e11, e12, e13, trivial, b6, b7, ⟨rfl, rfl, trivial⟩, List.Perm.refl _⟩)))⟩
   ·have u6 : ρ 6 = .pointer (some ⟨b6, 0, none⟩) := hρ.1
    have u7 : ρ 7 = .pointer (some ⟨b7, 0, none⟩) := hρ.2.1
    have u29 : ρ 29 = .pointer (some ⟨b3, 0 + 0, none⟩) := hS.dep ⟨5, Ground.data⟩ (by simp) rfl _ _ rfl rfl
    clear hS hρ
    obtain ⟨base, rfl⟩ := Has.base (ρ := ρ) (l := [(6, .pointer (some ⟨b6, 0, none⟩)), (7, .pointer (some ⟨b7, 0, none⟩)), (29, .pointer (some ⟨b3, 0 + 0, none⟩))]) ⟨u6, u7, u29, trivial⟩
    clear u6 u7 u29
    refine RL.perm rfl hL.symm ?_
    clear hL
    refine RL.loadO rfl sc28 rfl rfl ?_
    refine RL.nil ?_
    exact ⟨rfl, ⟨_, rfl, rfl⟩, .inr (.inr (.inr (.inr (.inl ⟨e10, e11, e12, e13, trivial, b6, b7, ⟨rfl, rfl, trivial⟩, List.Perm.refl _⟩))))⟩
   exact hS.hi 13 rfl (by kernel_rfl) e13
  ·intro ρ L D hS
   rcases hS.sp with ⟨e10, e11, e12, e13, -, hρ, hL⟩ | ⟨e10, e11, e12, e13, -, b6, hρ, hL⟩ | ⟨e10, e11, e12, e13, -, b7, hρ, hL⟩ | ⟨e10, e11, e12, e13, -, b6, b7, hρ, hL⟩ | ⟨e10, e11, e12, e13, -, b6, b7, hρ, hL⟩ | ⟨e10, e11, e12, e13, -, b6, b7, hρ, hL⟩
   ·have u5 : ρ 5 = .int .i64 g := hS.fix 5 (by decide)
    clear hS hρ
    obtain ⟨base, rfl⟩ := Has.base (ρ := ρ) (l := [(5, .int .i64 g)]) ⟨u5, trivial⟩
    clear u5
    refine RL.perm rfl hL.symm ?_
    clear hL
    refine RL.move rfl ?_
    refine RL.nil ?_
    exact ⟨rfl, ⟨_, rfl, rfl⟩, .inl ⟨e10, e11, e12, e13, trivial, trivial, List.Perm.refl _⟩⟩
   ·have u5 : ρ 5 = .int .i64 g := hS.fix 5 (by decide)
    have u6 : ρ 6 = .pointer (some ⟨b6, 0, none⟩) := hρ.1
    clear hS hρ
    obtain ⟨base, rfl⟩ := Has.base (ρ := ρ) (l := [(5, .int .i64 g), (6, .pointer (some ⟨b6, 0, none⟩))]) ⟨u5, u6, trivial⟩
    clear u5 u6
    refine RL.perm rfl hL.symm ?_
    clear hL
    refine RL.move rfl ?_
    refine RL.nil ?_
    exact ⟨rfl, ⟨_, rfl, rfl⟩, .inr (.inl ⟨e10, e11, e12, e13, trivial, b6, ⟨rfl, trivial⟩, List.Perm.refl _⟩)⟩
   ·have u5 : ρ 5 = .int .i64 g := hS.fix 5 (by decide)
    have u7 : ρ 7 = .pointer (some ⟨b7, 0, none⟩) := hρ.1
    clear hS hρ
    obtain ⟨base, rfl⟩ := Has.base (ρ := ρ) (l := [(5, .int .i64 g), (7, .pointer (some ⟨b7, 0, none⟩))]) ⟨u5, u7, trivial⟩
    clear u5 u7
    refine RL.perm rfl hL.symm ?_
    clear hL
    refine RL.move rfl ?_
    refine RL.nil ?_
    exact ⟨rfl, ⟨_, rfl, rfl⟩, .inr (.inr (.inl ⟨e10, e11, e12, e13, trivial, b7, ⟨rfl, trivial⟩, List.Perm.refl _⟩))⟩
   ·have u5 : ρ 5 = .int .i64 g := hS.fix 5 (by decide)
    have u6 : ρ 6 = .pointer (some ⟨b6, 0, none⟩) := hρ.1
    have u7 : ρ 7 = .pointer (some ⟨b7, 0, none⟩) := hρ.2.1
    clear hS hρ
    obtain ⟨base, rfl⟩ := Has.base (ρ := ρ) (l := [(5, .int .i64 g), (6, .pointer (some ⟨b6, 0, none⟩)), (7, .pointer (some ⟨b7, 0, none⟩))]) ⟨u5, u6, u7, trivial⟩
    clear u5 u6 u7
    refine RL.perm rfl hL.symm ?_
    clear hL
    refine RL.move rfl ?_
    refine RL.nil ?_
    exact ⟨rfl, ⟨_, rfl, rfl⟩, .inr (.inr (.inr (.inl ⟨e10, e11, e12, e13, trivial, b6, b7, ⟨rfl, rfl, trivial⟩, List.Perm.refl _⟩)))⟩
   ·have u5 : ρ 5 = .int .i64 g := hS.fix 5 (by decide)
    have u6 : ρ 6 = .pointer (some ⟨b6, 0, none⟩) := hρ.1
    have u7 : ρ 7 = .pointer (some ⟨b7, 0, none⟩) := hρ.2.1
    clear hS hρ
    obtain ⟨base, rfl⟩ := Has.base (ρ := ρ) (l := [(5, .int .i64 g), (6, .pointer (some ⟨b6, 0, none⟩)), (7, .pointer (some ⟨b7, 0, none⟩))]) ⟨u5, u6, u7, trivial⟩
    clear u5 u6 u7
    refine RL.perm rfl hL.symm ?_
    clear hL
    refine RL.move rfl ?_
    refine RL.nil ?_
    exact ⟨rfl, ⟨_, rfl, rfl⟩, .inr (.inr (.inr (.inr (.inl ⟨e10, e11, e12, e13, trivial, b6, b7, ⟨rfl, rfl, trivial⟩, List.Perm.refl _⟩))))⟩
   exact hS.hi 13 rfl (by kernel_rfl) e13
  ·intro ρ L D hS
   rcases hS.sp with ⟨e10, e11, e12, e13, -, hρ, hL⟩ | ⟨e10, e11, e12, e13, -, b6, hρ, hL⟩ | ⟨e10, e11, e12, e13, -, b7, hρ, hL⟩ | ⟨e10, e11, e12, e13, -, b6, b7, hρ, hL⟩ | ⟨e10, e11, e12, e13, -, b6, b7, hρ, hL⟩ | ⟨e10, e11, e12, e13, -, b6, b7, hρ, hL⟩
   ·have u30 : ρ 30 = .slice B m.length k := hS.dep ⟨6, Ground.data⟩ (by simp) rfl _ _ rfl rfl
    have u31 : ρ 31 = .int .i64 g := hS.dep ⟨7, Ground.data⟩ (by simp) rfl _ _ rfl rfl
    clear hS hρ
    obtain ⟨base, rfl⟩ := Has.base (ρ := ρ) (l := [(30, .slice B m.length k), (31, .int .i64 g)]) ⟨u30, u31, trivial⟩
    clear u30 u31
    refine RL.perm rfl hL.symm ?_
    clear hL
    refine RL.indexAddr rfl sl28 rfl rfl (hB (by omega)) rfl (by omega) ?_
    refine RL.nil ?_
    exact ⟨rfl, ⟨_, rfl, rfl⟩, .inl ⟨e10, e11, e12, e13, trivial, trivial, List.Perm.refl _⟩⟩
   ·have u6 : ρ 6 = .pointer (some ⟨b6, 0, none⟩) := hρ.1
    have u30 : ρ 30 = .slice B m.length k := hS.dep ⟨6, Ground.data⟩ (by simp) rfl _ _ rfl rfl
    have u31 : ρ 31 = .int .i64 g := hS.dep ⟨7, Ground.data⟩ (by simp) rfl _ _ rfl rfl
    clear hS hρ
    obtain ⟨base, rfl⟩ := Has.base (ρ := ρ) (l := [(6, .pointer (some ⟨b6, 0, none⟩)), (30, .slice B m.length k), (31, .int .i64 g)]) ⟨u6, u30, u31, trivial⟩
    clear u6 u30 u31
    refine RL.perm rfl hL.symm ?_
    clear hL
    refine RL.indexAddr rfl sl28 rfl rfl (hB (by omega)) rfl (by omega) ?_
    refine RL.nil ?_
    exact ⟨rfl, ⟨_, rfl, rfl⟩, .inr (.inl ⟨e10, e11, e12, e13, trivial, b6, ⟨rfl, trivial⟩, List.Perm.refl _⟩)⟩
   ·have u7 : ρ 7 = .pointer (some ⟨b7, 0, none⟩) := hρ.1
    have u30 : ρ 30 = .slice B m.length k := hS.dep ⟨6, Ground.data⟩ (by simp) rfl _ _ rfl rfl
    have u31 : ρ 31 = .int .i64 g := hS.dep ⟨7, Ground.data⟩ (by simp) rfl _ _ rfl rfl
    clear hS hρ
    obtain ⟨base, rfl⟩ := Has.base (ρ := ρ) (l := [(7, .pointer (some ⟨b7, 0, none⟩)), (30, .slice B m.length k), (31, .int .i64 g)]) ⟨u7, u30, u31, trivial⟩
    clear u7 u30 u31
    refine RL.perm rfl hL.symm ?_
    clear hL
    refine RL.indexAddr rfl sl28 rfl rfl (hB (by omega)) rfl (by omega) ?_
    refine RL.nil ?_
    exact ⟨rfl, ⟨_, rfl, rfl⟩, .inr (.inr (.inl ⟨e10, e11, e12, e13, trivial, b7, ⟨rfl, trivial⟩, List.Perm.refl _⟩))⟩
   ·have u6 : ρ 6 = .pointer (some ⟨b6, 0, none⟩) := hρ.1
    have u7 : ρ 7 = .pointer (some ⟨b7, 0, none⟩) := hρ.2.1
    have u30 : ρ 30 = .slice B m.length k := hS.dep ⟨6, Ground.data⟩ (by simp) rfl _ _ rfl rfl
    have u31 : ρ 31 = .int .i64 g := hS.dep ⟨7, Ground.data⟩ (by simp) rfl _ _ rfl rfl
    clear hS hρ
    obtain ⟨base, rfl⟩ := Has.base (ρ := ρ) (l := [(6, .pointer (some ⟨b6, 0, none⟩)), (7, .pointer (some ⟨b7, 0, none⟩)), (30, .slice B m.length k), (31, .int .i64 g)]) ⟨u6, u7, u30, u31, trivial⟩
    clear u6 u7 u30 u31
    refine RL.perm rfl hL.symm ?_
    clear hL
    refine RL.indexAddr rfl sl28 rfl rfl (hB (by omega)) rfl (by omega) ?_
    refine RL.nil ?_
    exact ⟨rfl, ⟨_, rfl, rfl⟩, .inr (.inr (.inr (.inl ⟨e10, e11, e12, e13, trivial, b6, b7, ⟨rfl, rfl, trivial⟩, List.Perm.refl _⟩)))⟩
   ·have u6 : ρ 6 = .pointer (some ⟨b6, 0, none⟩) := hρ.1
    have u7 : ρ 7 = .pointer (some ⟨b7, 0, none⟩) := hρ.2.1
    have u30 : ρ 30 = .slice B m.length k := hS.dep ⟨6, Ground.data⟩ (by simp) rfl _ _ rfl rfl
    have u31 : ρ 31 = .int .i64 g := hS.dep ⟨7, Ground.data⟩ (by simp) rfl _ _ rfl rfl
    clear hS hρ
    obtain ⟨base, rfl⟩ := Has.base (ρ := ρ) (l := [(6, .pointer (some ⟨b6, 0, none⟩)), (7, .pointer (some ⟨b7, 0, none⟩)), (30, .slice B m.length k), (31, .int .i64 g)]) ⟨u6, u7, u30, u31, trivial⟩
    clear u6 u7 u30 u31
    refine RL.perm rfl hL.symm ?_
    clear hL
    refine RL.indexAddr rfl sl28 rfl rfl (hB (by omega)) rfl (by omega) ?_
    refine RL.nil ?_
    exact ⟨rfl, ⟨_, rfl, rfl⟩, .inr (.inr (.inr (.inr (.inl ⟨e10, e11, e12, e13, trivial, b6, b7, ⟨rfl, rfl, trivial⟩, List.Perm.refl _⟩))))⟩
   exact hS.hi 13 rfl (by kernel_rfl) e13
  ·intro ρ L D hS
   rcases hS.sp with ⟨e10, e11, e12, e13, -, hρ, hL⟩ | ⟨e10, e11, e12, e13, -, b6, hρ, hL⟩ | ⟨e10, e11, e12, e13, -, b7, hρ, hL⟩ | ⟨e10, e11, e12, e13, -, b6, b7, hρ, hL⟩ | ⟨e10, e11, e12, e13, -, b6, b7, hρ, hL⟩ | ⟨e10, e11, e12, e13, -, b6, b7, hρ, hL⟩
   ·have u32 : ρ 32 = .pointer (some ⟨bb2, oo2 + g * 19, none⟩) := hS.dep ⟨8, Ground.data⟩ (by simp) rfl _ _ rfl rfl
    clear hS hρ
    obtain ⟨base, rfl⟩ := Has.base (ρ := ρ) (l := [(32, .pointer (some ⟨bb2, oo2 + g * 19, none⟩))]) ⟨u32, trivial⟩
    clear u32
    refine RL.perm rfl hL.symm ?_
    clear hL
    refine RL.loadIA rfl ag69 rfl hcs2 (by simp) hl192 ?_
    refine RL.nil ?_
    exact ⟨rfl, ⟨_, rfl, rfl⟩, .inl ⟨e10, e11, e12, e13, trivial, trivial, List.Perm.refl _⟩⟩
   ·have u6 : ρ 6 = .pointer (some ⟨b6, 0, none⟩) := hρ.1
    have u32 : ρ 32 = .pointer (some ⟨bb2, oo2 + g * 19, none⟩) := hS.dep ⟨8, Ground.data⟩ (by simp) rfl _ _ rfl rfl
    clear hS hρ
    obtain ⟨base, rfl⟩ := Has.base (ρ := ρ) (l := [(6, .pointer (some ⟨b6, 0, none⟩)), (32, .pointer (some ⟨bb2, oo2 + g * 19, none⟩))]) ⟨u6, u32, trivial⟩
    clear u6 u32
    refine RL.perm rfl hL.symm ?_
    clear hL
    refine RL.loadIA rfl ag69 rfl hcs2 (by simp) hl192 ?_
    refine RL.nil ?_
    exact ⟨rfl, ⟨_, rfl, rfl⟩, .inr (.inl ⟨e10, e11, e12, e13, trivial, b6, ⟨rfl, trivial⟩, List.Perm.refl _⟩)⟩
   ·have u7 : ρ 7 = .pointer (some ⟨b7, 0, none⟩) := hρ.1
    have u32 : ρ 32 = .pointer (some ⟨bb2, oo2 + g * 19, none⟩) := hS.dep ⟨8, Ground.data⟩ (by simp) rfl _ _ rfl rfl
    clear hS hρ
    obtain ⟨base, rfl⟩ := Has.base (ρ := ρ) (l := [(7, .pointer (some ⟨b7, 0, none⟩)), (32, .pointer (some ⟨bb2, oo2 + g * 19, none⟩))]) ⟨u7, u32, trivial⟩
    clear u7 u32
    refine RL.perm rfl hL.symm ?_
    clear hL
    refine RL.loadIA rfl ag69 rfl hcs2 (by simp) hl192 ?_
    refine RL.nil ?_
    exact ⟨rfl, ⟨_, rfl, rfl⟩, .inr (.inr (.inl ⟨e10, e11, e12, e13, trivial, b7, ⟨rfl, trivial⟩, List.Perm.refl _⟩))⟩
   ·have u6 : ρ 6 = .pointer (some ⟨b6, 0, none⟩) := hρ.1
    have u7 : ρ 7 = .pointer (some ⟨b7, 0, none⟩) := hρ.2.1
    have u32 : ρ 32 = .pointer (some ⟨bb2, oo2 + g * 19, none⟩) := hS.dep ⟨8, Ground.data⟩ (by simp) rfl _ _ rfl rfl
    clear hS hρ
    obtain ⟨base, rfl⟩ := Has.base (ρ := ρ) (l := [(6, .pointer (some ⟨b6, 0, none⟩)), (7, .pointer (some ⟨b7, 0, none⟩)), (32, .pointer (some ⟨bb2, oo2 + g * 19, none⟩))]) ⟨u6, u7, u32, trivial⟩
    clear u6 u7 u32
    refine RL.perm rfl hL.symm ?_
    clear hL
    refine RL.loadIA rfl ag69 rfl hcs2 (by simp) hl192 ?_
    refine RL.nil ?_
    exact ⟨rfl, ⟨_, rfl, rfl⟩, .inr (.inr (.inr (.inl ⟨e10, e11, e12, e13, trivial, b6, b7, ⟨rfl, rfl, trivial⟩, List.Perm.refl _⟩)))⟩
   ·have u6 : ρ 6 = .pointer (some ⟨b6, 0, none⟩) := hρ.1
    have u7 : ρ 7 = .pointer (some ⟨b7, 0, none⟩) := hρ.2.1
    have u32 : ρ 32 = .pointer (some ⟨bb2, oo2 + g * 19, none⟩) := hS.dep ⟨8, Ground.data⟩ (by simp) rfl _ _ rfl rfl
    clear hS hρ
    obtain ⟨base, rfl⟩ := Has.base (ρ := ρ) (l := [(6, .pointer (some ⟨b6, 0, none⟩)), (7, .pointer (some ⟨b7, 0, none⟩)), (32, .pointer (some ⟨bb2, oo2 + g * 19, none⟩))]) ⟨u6, u7, u32, trivial⟩
    clear u6 u7 u32
    refine RL.perm rfl hL.symm ?_
    clear hL
    refine RL.loadIA rfl ag69 rfl hcs2 (by simp) hl192 ?_
    refine RL.nil ?_
    exact ⟨rfl, ⟨_, rfl, rfl⟩, .inr (.inr (.inr (.inr (.inl ⟨e10, e11, e12, e13, trivial, b6, b7, ⟨rfl, rfl, trivial⟩, List.Perm.refl _⟩))))⟩
   exact hS.hi 13 rfl (by kernel_rfl) e13
  ·intro ρ L D hS
   rcases hS.sp with ⟨e10, e11, e12, e13, -, hρ, hL⟩ | ⟨e10, e11, e12, e13, -, b6, hρ, hL⟩ | ⟨e10, e11, e12, e13, -, b7, hρ, hL⟩ | ⟨e10, e11, e12, e13, -, b6, b7, hρ, hL⟩ | ⟨e10, e11, e12, e13, -, b6, b7, hρ, hL⟩ | ⟨e10, e11, e12, e13, -, b6, b7, hρ, hL⟩
   ·clear hS hρ
    obtain ⟨base, rfl⟩ := Has.base (ρ := ρ) (l := []) trivial
    refine RL.perm rfl hL.symm ?_
    clear hL
    refine RL.alloc rfl rfl zt69 ?_
    intro b6 hb6
    refine RL.nil ?_
    exact ⟨rfl, ⟨_, rfl, trivial⟩, .inr (.inl ⟨rfl, e11, e12, e13, trivial, b6, ⟨rfl, trivial⟩, (pmm fun _ _ z => by simp only [pm1, pm2, pm3, pm4, pm5, pm6, List.cons_append, List.nil_append] <;> omega)⟩)⟩
   ·exact hS.me e10
   ·have u7 : ρ 7 = .pointer (some ⟨b7, 0, none⟩) := hρ.1
    clear hS hρ
    obtain ⟨base, rfl⟩ := Has.base (ρ := ρ) (l := [(7, .pointer (some ⟨b7, 0, none⟩))]) ⟨u7, trivial⟩
    clear u7
    refine RL.perm rfl hL.symm ?_
    clear hL
    refine RL.alloc rfl rfl zt69 ?_
    intro b6 hb6
    refine RL.nil ?_
    exact ⟨rfl, ⟨_, rfl, trivial⟩, .inr (.inr (.inr (.inl ⟨rfl, e11, e12, e13, trivial, b6, b7, ⟨rfl, rfl, trivial⟩, (pmm fun _ _ z => by simp only [pm1, pm2, pm3, pm4, pm5, pm6, List.cons_append, List.nil_append] <;> omega)⟩)))⟩
   ·exact hS.me e10
   ·exact hS.hi 12 rfl (by kernel_rfl) e12
   exact hS.hi 12 rfl (by kernel_rfl) e12
  ·intro ρ L D hS
   rcases hS.sp with ⟨e10, e11, e12, e13, -, hρ, hL⟩ | ⟨e10, e11, e12, e13, -, b6, hρ, hL⟩ | ⟨e10, e11, e12, e13, -, b7, hρ, hL⟩ | ⟨e10, e11, e12, e13, -, b6, b7, hρ, hL⟩ | ⟨e10, e11, e12, e13, -, b6, b7, hρ, hL⟩ | ⟨e10, e11, e12, e13, -, b6, b7, hρ, hL⟩
   ·clear hS hρ
    obtain ⟨base, rfl⟩ := Has.base (ρ := ρ) (l := []) trivial
    refine RL.perm rfl hL.symm ?_
    clear hL
    refine RL.alloc rfl rfl zt69 ?_
    intro b7 hb7
    refine RL.nil ?_
    exact ⟨rfl, ⟨_, rfl, trivial⟩, .inr (.inr (.inl ⟨e10, rfl, e12, e13, trivial, b7, ⟨rfl, trivial⟩, (pmm fun _ _ z => by simp only [pm1, pm2, pm3, pm4, pm5, pm6, List.cons_append, List.nil_append] <;> omega)⟩))⟩
   ·have u6 : ρ 6 = .pointer (some ⟨b6, 0, none⟩) := hρ.1
    clear hS hρ
    obtain ⟨base, rfl⟩ := Has.base (ρ := ρ) (l := [(6, .pointer (some ⟨b6, 0, none⟩))]) ⟨u6, trivial⟩
    clear u6
    refine RL.perm rfl hL.symm ?_
    clear hL
    refine RL.alloc rfl rfl zt69 ?_
    intro b7 hb7
    refine RL.nil ?_
    exact ⟨rfl, ⟨_, rfl, trivial⟩, .inr (.inr (.inr (.inl ⟨e10, rfl, e12, e13, trivial, b6, b7, ⟨rfl, rfl, trivial⟩, (pmm fun _ _ z => by simp only [pm1, pm2, pm3, pm4, pm5, pm6, List.cons_append, List.nil_append] <;> omega)⟩)))⟩
   ·exact hS.me e11
   ·exact hS.me e11
   ·exact hS.hi 12 rfl (by kernel_rfl) e12
   exact hS.hi 12 rfl (by kernel_rfl) e12
  ·intro ρ L D hS
   rcases hS.sp with ⟨e10, e11, e12, e13, -, hρ, hL⟩ | ⟨e10, e11, e12, e13, -, b6, hρ, hL⟩ | ⟨e10, e11, e12, e13, -, b7, hρ, hL⟩ | ⟨e10, e11, e12, e13, -, b6, b7, hρ, hL⟩ | ⟨e10, e11, e12, e13, -, b6, b7, hρ, hL⟩ | ⟨e10, e11, e12, e13, -, b6, b7, hρ, hL⟩
   ·exact hS.lo 10 (by kernel_rfl) e10
   ·exact hS.lo 11 (by kernel_rfl) e11
   ·exact hS.lo 10 (by kernel_rfl) e10
   ·have u6 : ρ 6 = .pointer (some ⟨b6, 0, none⟩) := hρ.1
    have u7 : ρ 7 = .pointer (some ⟨b7, 0, none⟩) := hρ.2.1
    have u28 : ρ 28 = .agg cs.toArray := hS.dep ⟨4, Ground.data⟩ (by simp) rfl _ _ rfl rfl
    clear hS hρ
    obtain ⟨base, rfl⟩ := Has.base (ρ := ρ) (l := [(6, .pointer (some ⟨b6, 0, none⟩)), (7, .pointer (some ⟨b7, 0, none⟩)), (28, .agg cs.toArray)]) ⟨u6, u7, u28, trivial⟩
    clear u6 u7 u28
    refine RL.perm rfl hL.symm ?_
    clear hL
    refine RL.stA (l := [.int .u8 0, .int .u8 0, .int .u8 0, .int .u8 0, .int .u8 0, .int .u8 0, .int .u8 0, .int .u8 0, .int .u8 0, .int .u8 0, .int .u8 0, .int .u8 0, .int .u8 0, .int .u8 0, .int .u8 0, .int .u8 0, .slice none 0 0, .int .i64 0, .slice none 0 0]) rfl rfl ag69.size rfl rfl hl19 rfl hone ?_
    refine RL.nil ?_
    exact ⟨rfl, ⟨_, rfl, trivial⟩, .inr (.inr (.inr (.inr (.inl ⟨e10, e11, rfl, e13, trivial, b6, b7, ⟨rfl, rfl, trivial⟩, (pmm fun _ _ z => by simp only [pm1, pm2, pm3, pm4, pm5, pm6, List.cons_append, List.nil_append] <;> omega)⟩))))⟩
   ·exact hS.me e12
   exact hS.hi 13 rfl (by kernel_rfl) e13
  ·intro ρ L D hS
   rcases hS.sp with ⟨e10, e11, e12, e13, -, hρ, hL⟩ | ⟨e10, e11, e12, e13, -, b6, hρ, hL⟩ | ⟨e10, e11, e12, e13, -, b7, hρ, hL⟩ | ⟨e10, e11, e12, e13, -, b6, b7, hρ, hL⟩ | ⟨e10, e11, e12, e13, -, b6, b7, hρ, hL⟩ | ⟨e10, e11, e12, e13, -, b6, b7, hρ, hL⟩
   ·exact hS.lo 10 (by kernel_rfl) e10
   ·exact hS.lo 11 (by kernel_rfl) e11
   ·exact hS.lo 10 (by kernel_rfl) e10
   ·exact hS.lo 12 (by kernel_rfl) e12
   ·have u6 : ρ 6 = .pointer (some ⟨b6, 0, none⟩) := hρ.1
    have u7 : ρ 7 = .pointer (some ⟨b7, 0, none⟩) := hρ.2.1
    have u33 : ρ 33 = .agg cs2.toArray := hS.dep ⟨9, Ground.data⟩ (by simp) rfl _ _ rfl rfl
    clear hS hρ
    obtain ⟨base, rfl⟩ := Has.base (ρ := ρ) (l := [(6, .pointer (some ⟨b6, 0, none⟩)), (7, .pointer (some ⟨b7, 0, none⟩)), (33, .agg cs2.toArray)]) ⟨u6, u7, u33, trivial⟩
    clear u6 u7 u33
    refine RL.perm rfl hL.symm ?_
    clear hL
    refine RL.stA (l := [.int .u8 0, .int .u8 0, .int .u8 0, .int .u8 0, .int .u8 0, .int .u8 0, .int .u8 0, .int .u8 0, .int .u8 0, .int .u8 0, .int .u8 0, .int .u8 0, .int .u8 0, .int .u8 0, .int .u8 0, .int .u8 0, .slice none 0 0, .int .i64 0, .slice none 0 0]) rfl rfl ag69.size rfl rfl hl192 rfl hone2 ?_
    refine RL.nil ?_
    exact ⟨rfl, ⟨_, rfl, trivial⟩, .inr (.inr (.inr (.inr (.inr (⟨e10, e11, e12, rfl, trivial, b6, b7, ⟨rfl, rfl, trivial⟩, (pmm fun _ _ z => by simp only [pm1, pm2, pm3, pm4, pm5, pm6, List.cons_append, List.nil_append] <;> omega)⟩)))))⟩
   exact hS.me e13
  intro ρ L D hD hT hfix hsp
  rcases hsp with ⟨e10, e11, e12, e13, -, hρ, hL⟩ | ⟨e10, e11, e12, e13, -, b6, hρ, hL⟩ | ⟨e10, e11, e12, e13, -, b7, hρ, hL⟩ | ⟨e10, e11, e12, e13, -, b6, b7, hρ, hL⟩ | ⟨e10, e11, e12, e13, -, b6, b7, hρ, hL⟩ | ⟨e10, e11, e12, e13, -, b6, b7, hρ, hL⟩
  ·exact done_no hD 10 rfl e10
  ·exact done_no hD 11 rfl e11
  ·exact done_no hD 10 rfl e10
  ·exact done_no hD 12 rfl e12
  ·exact done_no hD 13 rfl e13
  have u2 : ρ 2 = .pointer (some ⟨b2, 0, none⟩) := hfix 2 (by decide)
  have u3 : ρ 3 = .pointer (some ⟨b3, 0, none⟩) := hfix 3 (by decide)
  have u5 : ρ 5 = .int .i64 g := hfix 5 (by decide)
  have u6 : ρ 6 = .pointer (some ⟨b6, 0, none⟩) := hρ.1
  have u7 : ρ 7 = .pointer (some ⟨b7, 0, none⟩) := hρ.2.1
  clear hT hfix hD hρ
  obtain ⟨base, rfl⟩ := Has.base (ρ := ρ) (l := [(2, .pointer (some ⟨b2, 0, none⟩)), (3, .pointer (some ⟨b3, 0, none⟩)), (5, .int .i64 g), (6, .pointer (some ⟨b6, 0, none⟩)), (7, .pointer (some ⟨b7, 0, none⟩))]) ⟨u2, u3, u5, u6, u7, trivial⟩
  clear u2 u3 u5 u6 u7
  refine ⟨_, hL.symm, (([(b6, cel 69 cs)]) ++ (([(b7, cel 69 cs2)]) ++ (([(b3, cel 30 [.slice B m.length k])]) ++ ([(b2, cel 30 [.slice A m.length n])])))), List.Sublist.append (List.Sublist.refl _) (List.Sublist.append (List.Sublist.refl _) (List.Sublist.append (List.Sublist.refl _) (List.Sublist.refl _))), ?_⟩
  obtain ⟨hid, hfo, Af, cf, Am, cm, ms, rfl, ⟨bf, of_, hAf0, hcf⟩, ⟨bm, om, hAm, hcm⟩, hms⟩ := hcr
  rw [hms.1] at hAm
  have hAf : 0 < cl.faces.length → Af = some ⟨bf, of_, none⟩ := fun h => hAf0 (by rw [fcells_len hfo]; omega)
  obtain ⟨hid2, hfo2, Af2, cf2, Am2, cm2, ms2, rfl, ⟨bf2, of2_, hAf02, hcf2⟩, ⟨bm2, om2, hAm2, hcm2⟩, hms2⟩ := hcr2
  rw [hms2.1] at hAm2
  have hAf2 : 0 < cl.faces.length → Af2 = some ⟨bf2, of2_, none⟩ := fun h => hAf02 (by rw [fcells_len hfo2]; omega)
  refine X.seq ?_
  refine X.seq ?_
  refine X.region rfl ?_
  refine RL.fieldAddr rfl fd69_0 rfl ?_
  refine RL.loadOA rfl ag47 rfl (clCells_id hid) (gcells_length hid) ?_
  refine RL.fieldAddr rfl fd69_0 rfl ?_
  refine RL.loadOA rfl ag47 rfl (clCells_id hid2) (gcells_length hid2) ?_
  refine RL.neA rfl eqg_guid rfl rfl (eq_guid hid hid) (fun he => ?_) (fun he => ?_)
  ·skip
   exact absurd rfl he
  skip
  refine RL.move rfl ?_
  refine RL.fieldAddr rfl fd69_2 rfl ?_
  refine RL.loadO rfl sc3 rfl (clCells_s hid) ?_
  refine RL.fieldAddr rfl fd69_2 rfl ?_
  refine RL.loadO rfl sc3 rfl (clCells_s hid2) ?_
  refine RL.cmp_f rfl rfl rfl rfl (by show ¬ ((_ : Int) ≠ _); exact fun h => h rfl) ?_
  refine RL.pick_f rfl rfl ?_
  refine RL.move rfl ?_
  refine RL.fieldAddr rfl fd69_1 rfl ?_
  refine RL.loadO rfl sc66 rfl (clCells_f hid) ?_
  refine RL.len rfl sl66 rfl ?_
  refine RL.fieldAddr rfl fd69_1 rfl ?_
  refine RL.loadO rfl sc66 rfl (clCells_f hid2) ?_
  refine RL.len rfl sl66 rfl ?_
  refine RL.cmp_f rfl rfl rfl rfl (by show ¬ ((_ : Int) ≠ _); exact fun h => h rfl) ?_
  refine RL.pick_f rfl rfl ?_
  refine RL.move rfl ?_
  refine RL.fieldAddr rfl fd69_3 rfl ?_
  refine RL.loadO rfl sc67 rfl (clCells_m hid) ?_
  refine RL.len rfl sl67 rfl ?_
  refine RL.fieldAddr rfl fd69_3 rfl ?_
  refine RL.loadO rfl sc67 rfl (clCells_m hid2) ?_
  refine RL.len rfl sl67 rfl ?_
  refine RL.cmp_f rfl rfl rfl rfl (by show ¬ ((_ : Int) ≠ _); exact fun h => h rfl) ?_
  refine RL.pick_f rfl rfl ?_
  refine RL.nil ?_
  refine X.cond_f rfl ?_
  refine X.skip ?_
  refine X.seq ?_
  refine X.seq ?_
  refine X.region rfl ?_
  refine RL.assign rfl ?_
  refine RL.nil ?_
  refine X.block ?_
  refine X.loop (γ := Nat) (fun h ρ L => (h ≤ cl.faces.length) ∧ Has ρ [(2, .pointer (some ⟨b2, 0, none⟩)), (3, .pointer (some ⟨b3, 0, none⟩)), (5, .int .i64 g), (6, .pointer (some ⟨b6, 0, none⟩)), (7, .pointer (some ⟨b7, 0, none⟩)), (8, .int .i64 h)] ∧ L = [(b6, cel 69 (clCells cl.id (.slice Af cl.faces.length cf) cl.slots (.slice Am cl.methods.length cm))), (b7, cel 69 (clCells cl.id (.slice Af2 cl.faces.length cf2) cl.slots (.slice Am2 cl.methods.length cm2))), (b3, cel 30 [.slice B m.length k]), (b2, cel 30 [.slice A m.length n])]) (fun h => cl.faces.length - h) (0) ⟨_, (by repeat (first | exact sb0 _ | exact sb1 _ | (rw [List.append_nil]; exact sb0 _) | exact sb2 _ _ | exact sb3 _ _ _ | apply sb4 | apply sb5 | apply sb6)), Nat.zero_le _, ⟨rfl, rfl, rfl, rfl, rfl, rfl, trivial⟩, rfl⟩ ?_
  rintro h _ _ ⟨hh0, hρ, rfl⟩
  obtain ⟨base, rfl⟩ := hρ.base
  clear hρ
  refine X.seq ?_
  refine X.seq ?_
  refine X.region rfl ?_
  refine RL.move rfl ?_
  refine RL.fieldAddr rfl fd69_1 rfl ?_
  refine RL.loadO rfl sc66 rfl (clCells_f hid) ?_
  refine RL.len rfl sl66 rfl ?_
  refine RL.cmp_s rfl rfl rfl rfl (fun hl2 => ?_) (fun hl2 => ?_)
  ·replace hl2 : (_ : Int) < _ := hl2
   obtain ⟨f, hf⟩ : ∃ f, cl.faces[h]? = some f := ⟨_, List.getElem?_eq_getElem (by omega)⟩
   have hff := hfo f (List.mem_of_getElem? hf)
   refine RL.nil ?_
   refine X.cond_t rfl ?_
   refine X.skip ?_
   refine X.seq ?_
   refine X.block ?_
   refine X.seq ?_
   refine X.draw (by kernel_rfl) (by kernel_rfl) ?_
   refine RL.fieldAddr rfl fd69_1 rfl ?_
   refine RL.loadO rfl sc66 rfl (clCells_f hid) ?_
   refine RL.move rfl ?_
   refine RL.indexAddr rfl sl66 rfl rfl (hAf (by omega)) rfl (by omega) ?_
   refine RL.loadIA rfl ag93 rfl (face_at hcf hfo hf) (by simp) (Face.len hff) ?_
   refine RL.fieldAddr rfl fd69_1 rfl ?_
   refine RL.loadO rfl sc66 rfl (clCells_f hid2) ?_
   refine RL.move rfl ?_
   refine RL.indexAddr rfl sl66 rfl rfl (hAf2 (by omega)) rfl (by omega) ?_
   refine RL.loadIA rfl ag93 rfl (face_at hcf2 hfo hf) (by simp) (Face.len hff) ?_
   refine RL.neA rfl eqg_face rfl rfl (eq_face hff hff) (fun hh => ?_) (fun hh => ?_)
   ·skip
    exact absurd rfl hh
   skip
   refine RL.nil ?_
   refine X.cond_f rfl ?_
   refine X.skip ?_
   refine X.blk ?_
   refine X.region rfl ?_
   refine RL.move rfl ?_
   refine RL.add rfl rfl rfl (by omega) ?_
   refine RL.assign rfl ?_
   refine RL.nil ?_
   refine X.hyp ⟨rfl, h + 1, by omega, _, (by repeat (first | exact sb0 _ | exact sb1 _ | (rw [List.append_nil]; exact sb0 _) | exact sb2 _ _ | exact sb3 _ _ _ | apply sb4 | apply sb5 | apply sb6)), by omega, ⟨rfl, rfl, rfl, rfl, rfl, rfl, trivial⟩, rfl⟩
  replace hl2 : ¬ ((_ : Int) < _) := hl2
  refine RL.nil ?_
  refine X.cond_f rfl ?_
  refine X.exit rfl ?_
  refine X.seq ?_
  refine X.region rfl ?_
  refine RL.assign rfl ?_
  refine RL.nil ?_
  refine X.block ?_
  refine X.loop (γ := Nat) (fun h ρ L => (h ≤ cl.methods.length) ∧ Has ρ [(2, .pointer (some ⟨b2, 0, none⟩)), (3, .pointer (some ⟨b3, 0, none⟩)), (5, .int .i64 g), (6, .pointer (some ⟨b6, 0, none⟩)), (7, .pointer (some ⟨b7, 0, none⟩)), (9, .int .i64 h)] ∧ L = [(b6, cel 69 (clCells cl.id (.slice Af cl.faces.length cf) cl.slots (.slice Am cl.methods.length cm))), (b7, cel 69 (clCells cl.id (.slice Af2 cl.faces.length cf2) cl.slots (.slice Am2 cl.methods.length cm2))), (b3, cel 30 [.slice B m.length k]), (b2, cel 30 [.slice A m.length n])]) (fun h => cl.methods.length - h) (0) ⟨_, (by repeat (first | exact sb0 _ | exact sb1 _ | (rw [List.append_nil]; exact sb0 _) | exact sb2 _ _ | exact sb3 _ _ _ | apply sb4 | apply sb5 | apply sb6)), Nat.zero_le _, ⟨rfl, rfl, rfl, rfl, rfl, rfl, trivial⟩, rfl⟩ ?_
  rintro h _ _ ⟨hh0, hρ, rfl⟩
  obtain ⟨base, rfl⟩ := hρ.base
  clear hρ
  refine X.seq ?_
  refine X.seq ?_
  refine X.region rfl ?_
  refine RL.move rfl ?_
  refine RL.fieldAddr rfl fd69_3 rfl ?_
  refine RL.loadO rfl sc67 rfl (clCells_m hid) ?_
  refine RL.len rfl sl67 rfl ?_
  refine RL.cmp_s rfl rfl rfl rfl (fun hl2 => ?_) (fun hl2 => ?_)
  ·replace hl2 : (_ : Int) < _ := hl2
   obtain ⟨l, hl⟩ : ∃ l, cl.methods[h]? = some l := ⟨_, List.getElem?_eq_getElem (by omega)⟩
   obtain ⟨Al, c2, hml, hrl⟩ := hms.2 h l hl
   obtain ⟨Al2, c22, hml2, hrl2⟩ := hms2.2 h l hl
   have hll := hcz.rows l (List.mem_of_getElem? hl)
   refine RL.nil ?_
   refine X.cond_t rfl ?_
   refine X.skip ?_
   refine X.seq ?_
   refine X.block ?_
   refine X.seq ?_
   refine X.draw (by kernel_rfl) (by kernel_rfl) ?_
   refine RL.fieldAddr rfl fd69_3 rfl ?_
   refine RL.loadO rfl sc67 rfl (clCells_m hid) ?_
   refine RL.move rfl ?_
   refine RL.indexAddr rfl sl67 rfl rfl (hAm (by omega)) rfl (by omega) ?_
   refine RL.loadI rfl sc78 rfl (by rw [Nat.mul_one]; exact hcm h _ hml) (by simp) ?_
   refine RL.fieldAddr rfl fd69_3 rfl ?_
   refine RL.loadO rfl sc67 rfl (clCells_m hid2) ?_
   refine RL.move rfl ?_
   refine RL.indexAddr rfl sl67 rfl rfl (hAm2 (by omega)) rfl (by omega) ?_
   refine RL.loadI rfl sc78 rfl (by rw [Nat.mul_one]; exact hcm2 h _ hml2) (by simp) ?_
   refine RL.fnQ (v := .bool true) rfl rfl en37 (fun w1 hw1 => f_samecode l hll Al Al2 c2 c22 w1 (hrl.st0 hw1) (hrl2.st0 hw1)) rfl ?_
   refine RL.not rfl rfl ?_
   refine RL.nil ?_
   refine X.cond_f rfl ?_
   refine X.skip ?_
   refine X.blk ?_
   refine X.region rfl ?_
   refine RL.move rfl ?_
   refine RL.add rfl rfl rfl (by omega) ?_
   refine RL.assign rfl ?_
   refine RL.nil ?_
   refine X.hyp ⟨rfl, h + 1, by omega, _, (by repeat (first | exact sb0 _ | exact sb1 _ | (rw [List.append_nil]; exact sb0 _) | exact sb2 _ _ | exact sb3 _ _ _ | apply sb4 | apply sb5 | apply sb6)), by omega, ⟨rfl, rfl, rfl, rfl, rfl, rfl, trivial⟩, rfl⟩
  replace hl2 : ¬ ((_ : Int) < _) := hl2
  refine RL.nil ?_
  refine X.cond_f rfl ?_
  refine X.exit rfl ?_
  refine X.blk ?_
  refine X.region rfl ?_
  refine RL.move rfl ?_
  refine RL.add rfl rfl rfl (by omega) ?_
  refine RL.assign rfl ?_
  refine RL.nil ?_
  refine X.hyp ⟨rfl, g + 1, by omega, _, (by repeat (first | exact sb0 _ | exact sb1 _ | (rw [List.append_nil]; exact sb0 _) | exact sb2 _ _ | exact sb3 _ _ _ | apply sb4 | apply sb5 | apply sb6)), by omega, ⟨rfl, rfl, rfl, trivial⟩, rfl⟩
 replace hlt : ¬ ((_ : Int) < _) := hlt
 refine RL.nil ?_
 refine X.cond_f rfl ?_
 refine X.exit rfl ?_
 refine X.seq ?_
 refine X.region rfl ?_
 refine RL.assign rfl ?_
 refine RL.nil ?_
 refine X.ret ?_
 exact ret1 rfl rfl
end Go.Proofs.Ytnebpklmbefmfaa

/- The document's pop. -/
import Derived.Test.YtekepfpkihnodaaA6
set_option linter.unusedVariables false
set_option linter.unusedSimpArgs false
namespace Go.Proofs.Ytekepfpkihnodaa
open Go.RowKit
attribute [local irreducible] X RL W Ctr
theorem f_pop (xs : List Int) (A : Option Addr) (c : Nat) (hx : xs.length ≤ 1000) (h0 : 0 < xs.length) (hcp : xs.length ≤ c) (w : World) (hrd : Rd w A (ints xs)) :
    Ctr Try.prog 24 [.slice A xs.length c] w [] fun v L => ∃ A2 cp2 Lr2, v = .tuple #[.int .i64 (top xs), .slice A2 xs.dropLast.length cp2] ∧ Row 2 1 (.slice A2 xs.dropLast.length cp2) (ints xs.dropLast) Lr2 ∧ Lr2.Sublist L := by
  obtain ⟨bb, oo, hA, hc⟩ := hrd
  rw [ints_length] at hA
  obtain rfl := hA h0
  have htop := top_get h0
  have hdl := dropLast_len xs
  refine Ctr.intro0 (n := 17) Try.func24 rfl Try.ntmps24 (Nat.le_of_ble_eq_true rfl) ?_
  refine X.seq ?_
  refine X.region rfl ?_
  refine RL.assign rfl ?_
  refine RL.assign rfl ?_
  refine RL.nil ?_
  refine X.seq ?_
  refine X.region rfl ?_
  refine RL.move rfl ?_
  refine RL.len rfl sl35 rfl ?_
  refine RL.sub rfl rfl rfl (by omega) ?_
  refine RL.assign rfl ?_
  refine RL.nil ?_
  refine X.seq ?_
  refine X.set [.val (.slice (some ⟨bb, oo, none⟩) xs.length c), .val (.int .i64 (((xs.length : Nat) : Int) - 1)), .val (.pointer (some ⟨bb, oo + (xs.length - 1) * 1, none⟩)), .val (.int .i64 (top xs)), .any, .val (.slice (some ⟨bb, oo, none⟩) xs.length c), .val (.int .i64 (((xs.length : Nat) : Int) - 1)), .val (.slice (some ⟨bb, oo, none⟩) xs.dropLast.length c), .any, .val (.int .i64 (top xs)), .any] [[], [], [0, 1], [0, 1, 2], [], [], [], [5, 6], [4, 5, 6, 7], [0, 1, 2, 3, 4, 5, 6, 7, 8], [0, 1, 2, 3, 4, 5, 6, 7, 8, 9]] (fun D ρ L => (D 4 = false ∧ D 8 = false ∧ D 10 = false ∧ True ∧ Has ρ [] ∧ L.Perm []) ∨ (D 4 = true ∧ D 8 = false ∧ D 10 = false ∧ True ∧ ∃ b12 : Nat, Has ρ [(12, .slice (some ⟨b12, 0, none⟩) 0 0)] ∧ L.Perm ([(b12, cel 2 [])])) ∨ (D 4 = true ∧ D 8 = true ∧ D 10 = false ∧ True ∧ ∃ b12 : Nat, ∃ A16 : Option Addr, ∃ cp16 : Nat, ∃ Lr16 : List Ent, (Row 2 1 (.slice A16 xs.dropLast.length cp16) (ints xs.dropLast) Lr16) ∧ Has ρ [(12, .slice (some ⟨b12, 0, none⟩) 0 0), (16, .slice A16 xs.dropLast.length cp16)] ∧ L.Perm (Lr16)) ∨ (D 4 = true ∧ D 8 = true ∧ D 10 = true ∧ True ∧ ∃ b12 : Nat, ∃ A16 : Option Addr, ∃ cp16 : Nat, ∃ Lr16 : List Ent, (Row 2 1 (.slice A16 xs.dropLast.length cp16) (ints xs.dropLast) Lr16) ∧ Has ρ [(3, .slice A16 xs.dropLast.length cp16), (12, .slice (some ⟨b12, 0, none⟩) 0 0), (16, .slice A16 xs.dropLast.length cp16)] ∧ L.Perm (Lr16))) rfl (by kernel_rfl) (by kernel_rfl) (by kernel_rfl) (by kernel_rfl) (fun D hD => .inl ⟨hD 4, hD 8, hD 10, trivial, trivial, (by classical exact List.perm_iff_count.2 (fun z => by simp only [List.count_append, List.count_cons, List.count_nil, List.cons_append, List.nil_append, List.append_nil, List.set_cons_zero, List.set_cons_succ] <;> omega))⟩) ⟨?_, ?_, ?_, ?_, ?_, ?_, ?_, ?_, ?_, ?_, ?_, trivial⟩ ?_
  · intro ρ L D hS
    rcases hS.sp with ⟨e4, e8, e10, -, hρ, hL⟩ | ⟨e4, e8, e10, -, b12, hρ, hL⟩ | ⟨e4, e8, e10, -, b12, A16, cp16, Lr16, hp0, hρ, hL⟩ | ⟨e4, e8, e10, -, b12, A16, cp16, Lr16, hp0, hρ, hL⟩
    · have u0 : ρ 0 = .slice (some ⟨bb, oo, none⟩) xs.length c := hS.fix 0 (by decide)
      clear hS hρ
      obtain ⟨base, rfl⟩ := Has.base (ρ := ρ) (l := [(0, .slice (some ⟨bb, oo, none⟩) xs.length c)]) ⟨u0, trivial⟩
      clear u0
      refine RL.perm (L' := []) rfl hL.symm ?_
      clear hL
      refine RL.move rfl ?_
      refine RL.nil ?_
      exact ⟨rfl, ⟨_, rfl, rfl⟩, .inl ⟨e4, e8, e10, trivial, trivial, List.Perm.refl _⟩⟩
    · have u0 : ρ 0 = .slice (some ⟨bb, oo, none⟩) xs.length c := hS.fix 0 (by decide)
      have u12 : ρ 12 = .slice (some ⟨b12, 0, none⟩) 0 0 := hρ.1
      clear hS hρ
      obtain ⟨base, rfl⟩ := Has.base (ρ := ρ) (l := [(0, .slice (some ⟨bb, oo, none⟩) xs.length c), (12, .slice (some ⟨b12, 0, none⟩) 0 0)]) ⟨u0, u12, trivial⟩
      clear u0 u12
      refine RL.perm (L' := ([(b12, cel 2 [])])) rfl hL.symm ?_
      clear hL
      refine RL.move rfl ?_
      refine RL.nil ?_
      exact ⟨rfl, ⟨_, rfl, rfl⟩, .inr (.inl ⟨e4, e8, e10, trivial, b12, ⟨rfl, trivial⟩, List.Perm.refl _⟩)⟩
    · have u0 : ρ 0 = .slice (some ⟨bb, oo, none⟩) xs.length c := hS.fix 0 (by decide)
      have u12 : ρ 12 = .slice (some ⟨b12, 0, none⟩) 0 0 := hρ.1
      have u16 : ρ 16 = .slice A16 xs.dropLast.length cp16 := hρ.2.1
      clear hS hρ
      obtain ⟨base, rfl⟩ := Has.base (ρ := ρ) (l := [(0, .slice (some ⟨bb, oo, none⟩) xs.length c), (12, .slice (some ⟨b12, 0, none⟩) 0 0), (16, .slice A16 xs.dropLast.length cp16)]) ⟨u0, u12, u16, trivial⟩
      clear u0 u12 u16
      refine RL.perm (L' := (Lr16)) rfl hL.symm ?_
      clear hL
      refine RL.move rfl ?_
      refine RL.nil ?_
      exact ⟨rfl, ⟨_, rfl, rfl⟩, .inr (.inr (.inl ⟨e4, e8, e10, trivial, b12, A16, cp16, Lr16, hp0, ⟨rfl, rfl, trivial⟩, List.Perm.refl _⟩))⟩
    · exact hS.hi 10 rfl (by kernel_rfl) e10
  · intro ρ L D hS
    rcases hS.sp with ⟨e4, e8, e10, -, hρ, hL⟩ | ⟨e4, e8, e10, -, b12, hρ, hL⟩ | ⟨e4, e8, e10, -, b12, A16, cp16, Lr16, hp0, hρ, hL⟩ | ⟨e4, e8, e10, -, b12, A16, cp16, Lr16, hp0, hρ, hL⟩
    · have u4 : ρ 4 = .int .i64 (((xs.length : Nat) : Int) - 1) := hS.fix 4 (by decide)
      clear hS hρ
      obtain ⟨base, rfl⟩ := Has.base (ρ := ρ) (l := [(4, .int .i64 (((xs.length : Nat) : Int) - 1))]) ⟨u4, trivial⟩
      clear u4
      refine RL.perm (L' := []) rfl hL.symm ?_
      clear hL
      refine RL.move rfl ?_
      refine RL.nil ?_
      exact ⟨rfl, ⟨_, rfl, rfl⟩, .inl ⟨e4, e8, e10, trivial, trivial, List.Perm.refl _⟩⟩
    · have u4 : ρ 4 = .int .i64 (((xs.length : Nat) : Int) - 1) := hS.fix 4 (by decide)
      have u12 : ρ 12 = .slice (some ⟨b12, 0, none⟩) 0 0 := hρ.1
      clear hS hρ
      obtain ⟨base, rfl⟩ := Has.base (ρ := ρ) (l := [(4, .int .i64 (((xs.length : Nat) : Int) - 1)), (12, .slice (some ⟨b12, 0, none⟩) 0 0)]) ⟨u4, u12, trivial⟩
      clear u4 u12
      refine RL.perm (L' := ([(b12, cel 2 [])])) rfl hL.symm ?_
      clear hL
      refine RL.move rfl ?_
      refine RL.nil ?_
      exact ⟨rfl, ⟨_, rfl, rfl⟩, .inr (.inl ⟨e4, e8, e10, trivial, b12, ⟨rfl, trivial⟩, List.Perm.refl _⟩)⟩
    · have u4 : ρ 4 = .int .i64 (((xs.length : Nat) : Int) - 1) := hS.fix 4 (by decide)
      have u12 : ρ 12 = .slice (some ⟨b12, 0, none⟩) 0 0 := hρ.1
      have u16 : ρ 16 = .slice A16 xs.dropLast.length cp16 := hρ.2.1
      clear hS hρ
      obtain ⟨base, rfl⟩ := Has.base (ρ := ρ) (l := [(4, .int .i64 (((xs.length : Nat) : Int) - 1)), (12, .slice (some ⟨b12, 0, none⟩) 0 0), (16, .slice A16 xs.dropLast.length cp16)]) ⟨u4, u12, u16, trivial⟩
      clear u4 u12 u16
      refine RL.perm (L' := (Lr16)) rfl hL.symm ?_
      clear hL
      refine RL.move rfl ?_
      refine RL.nil ?_
      exact ⟨rfl, ⟨_, rfl, rfl⟩, .inr (.inr (.inl ⟨e4, e8, e10, trivial, b12, A16, cp16, Lr16, hp0, ⟨rfl, rfl, trivial⟩, List.Perm.refl _⟩))⟩
    · exact hS.hi 10 rfl (by kernel_rfl) e10
  · intro ρ L D hS
    rcases hS.sp with ⟨e4, e8, e10, -, hρ, hL⟩ | ⟨e4, e8, e10, -, b12, hρ, hL⟩ | ⟨e4, e8, e10, -, b12, A16, cp16, Lr16, hp0, hρ, hL⟩ | ⟨e4, e8, e10, -, b12, A16, cp16, Lr16, hp0, hρ, hL⟩
    · have u8 : ρ 8 = .slice (some ⟨bb, oo, none⟩) xs.length c := hS.dep ⟨0, Ground.data⟩ (by simp) rfl _ _ rfl rfl
      have u9 : ρ 9 = .int .i64 (((xs.length : Nat) : Int) - 1) := hS.dep ⟨1, Ground.data⟩ (by simp) rfl _ _ rfl rfl
      clear hS hρ
      obtain ⟨base, rfl⟩ := Has.base (ρ := ρ) (l := [(8, .slice (some ⟨bb, oo, none⟩) xs.length c), (9, .int .i64 (((xs.length : Nat) : Int) - 1))]) ⟨u8, u9, trivial⟩
      clear u8 u9
      refine RL.perm (L' := []) rfl hL.symm ?_
      clear hL
      refine RL.indexAddr rfl sl35 rfl rfl rfl (show ((xs.length : Nat) : Int) - 1 = ((xs.length - 1 : Nat) : Int) by omega) (by omega) ?_
      refine RL.nil ?_
      exact ⟨rfl, ⟨_, rfl, rfl⟩, .inl ⟨e4, e8, e10, trivial, trivial, List.Perm.refl _⟩⟩
    · have u8 : ρ 8 = .slice (some ⟨bb, oo, none⟩) xs.length c := hS.dep ⟨0, Ground.data⟩ (by simp) rfl _ _ rfl rfl
      have u9 : ρ 9 = .int .i64 (((xs.length : Nat) : Int) - 1) := hS.dep ⟨1, Ground.data⟩ (by simp) rfl _ _ rfl rfl
      have u12 : ρ 12 = .slice (some ⟨b12, 0, none⟩) 0 0 := hρ.1
      clear hS hρ
      obtain ⟨base, rfl⟩ := Has.base (ρ := ρ) (l := [(8, .slice (some ⟨bb, oo, none⟩) xs.length c), (9, .int .i64 (((xs.length : Nat) : Int) - 1)), (12, .slice (some ⟨b12, 0, none⟩) 0 0)]) ⟨u8, u9, u12, trivial⟩
      clear u8 u9 u12
      refine RL.perm (L' := ([(b12, cel 2 [])])) rfl hL.symm ?_
      clear hL
      refine RL.indexAddr rfl sl35 rfl rfl rfl (show ((xs.length : Nat) : Int) - 1 = ((xs.length - 1 : Nat) : Int) by omega) (by omega) ?_
      refine RL.nil ?_
      exact ⟨rfl, ⟨_, rfl, rfl⟩, .inr (.inl ⟨e4, e8, e10, trivial, b12, ⟨rfl, trivial⟩, List.Perm.refl _⟩)⟩
    · have u8 : ρ 8 = .slice (some ⟨bb, oo, none⟩) xs.length c := hS.dep ⟨0, Ground.data⟩ (by simp) rfl _ _ rfl rfl
      have u9 : ρ 9 = .int .i64 (((xs.length : Nat) : Int) - 1) := hS.dep ⟨1, Ground.data⟩ (by simp) rfl _ _ rfl rfl
      have u12 : ρ 12 = .slice (some ⟨b12, 0, none⟩) 0 0 := hρ.1
      have u16 : ρ 16 = .slice A16 xs.dropLast.length cp16 := hρ.2.1
      clear hS hρ
      obtain ⟨base, rfl⟩ := Has.base (ρ := ρ) (l := [(8, .slice (some ⟨bb, oo, none⟩) xs.length c), (9, .int .i64 (((xs.length : Nat) : Int) - 1)), (12, .slice (some ⟨b12, 0, none⟩) 0 0), (16, .slice A16 xs.dropLast.length cp16)]) ⟨u8, u9, u12, u16, trivial⟩
      clear u8 u9 u12 u16
      refine RL.perm (L' := (Lr16)) rfl hL.symm ?_
      clear hL
      refine RL.indexAddr rfl sl35 rfl rfl rfl (show ((xs.length : Nat) : Int) - 1 = ((xs.length - 1 : Nat) : Int) by omega) (by omega) ?_
      refine RL.nil ?_
      exact ⟨rfl, ⟨_, rfl, rfl⟩, .inr (.inr (.inl ⟨e4, e8, e10, trivial, b12, A16, cp16, Lr16, hp0, ⟨rfl, rfl, trivial⟩, List.Perm.refl _⟩))⟩
    · exact hS.hi 10 rfl (by kernel_rfl) e10
  · intro ρ L D hS
    rcases hS.sp with ⟨e4, e8, e10, -, hρ, hL⟩ | ⟨e4, e8, e10, -, b12, hρ, hL⟩ | ⟨e4, e8, e10, -, b12, A16, cp16, Lr16, hp0, hρ, hL⟩ | ⟨e4, e8, e10, -, b12, A16, cp16, Lr16, hp0, hρ, hL⟩
    · have u10 : ρ 10 = .pointer (some ⟨bb, oo + (xs.length - 1) * 1, none⟩) := hS.dep ⟨2, Ground.data⟩ (by simp) rfl _ _ rfl rfl
      clear hS hρ
      obtain ⟨base, rfl⟩ := Has.base (ρ := ρ) (l := [(10, .pointer (some ⟨bb, oo + (xs.length - 1) * 1, none⟩))]) ⟨u10, trivial⟩
      clear u10
      refine RL.perm (L' := []) rfl hL.symm ?_
      clear hL
      refine RL.loadI rfl sc2 rfl (by rw [Nat.mul_one]; exact hc _ _ (ints_get htop)) (by simp) ?_
      refine RL.nil ?_
      exact ⟨rfl, ⟨_, rfl, rfl⟩, .inl ⟨e4, e8, e10, trivial, trivial, List.Perm.refl _⟩⟩
    · have u10 : ρ 10 = .pointer (some ⟨bb, oo + (xs.length - 1) * 1, none⟩) := hS.dep ⟨2, Ground.data⟩ (by simp) rfl _ _ rfl rfl
      have u12 : ρ 12 = .slice (some ⟨b12, 0, none⟩) 0 0 := hρ.1
      clear hS hρ
      obtain ⟨base, rfl⟩ := Has.base (ρ := ρ) (l := [(10, .pointer (some ⟨bb, oo + (xs.length - 1) * 1, none⟩)), (12, .slice (some ⟨b12, 0, none⟩) 0 0)]) ⟨u10, u12, trivial⟩
      clear u10 u12
      refine RL.perm (L' := ([(b12, cel 2 [])])) rfl hL.symm ?_
      clear hL
      refine RL.loadI rfl sc2 rfl (by rw [Nat.mul_one]; exact hc _ _ (ints_get htop)) (by simp) ?_
      refine RL.nil ?_
      exact ⟨rfl, ⟨_, rfl, rfl⟩, .inr (.inl ⟨e4, e8, e10, trivial, b12, ⟨rfl, trivial⟩, List.Perm.refl _⟩)⟩
    · have u10 : ρ 10 = .pointer (some ⟨bb, oo + (xs.length - 1) * 1, none⟩) := hS.dep ⟨2, Ground.data⟩ (by simp) rfl _ _ rfl rfl
      have u12 : ρ 12 = .slice (some ⟨b12, 0, none⟩) 0 0 := hρ.1
      have u16 : ρ 16 = .slice A16 xs.dropLast.length cp16 := hρ.2.1
      clear hS hρ
      obtain ⟨base, rfl⟩ := Has.base (ρ := ρ) (l := [(10, .pointer (some ⟨bb, oo + (xs.length - 1) * 1, none⟩)), (12, .slice (some ⟨b12, 0, none⟩) 0 0), (16, .slice A16 xs.dropLast.length cp16)]) ⟨u10, u12, u16, trivial⟩
      clear u10 u12 u16
      refine RL.perm (L' := (Lr16)) rfl hL.symm ?_
      clear hL
      refine RL.loadI rfl sc2 rfl (by rw [Nat.mul_one]; exact hc _ _ (ints_get htop)) (by simp) ?_
      refine RL.nil ?_
      exact ⟨rfl, ⟨_, rfl, rfl⟩, .inr (.inr (.inl ⟨e4, e8, e10, trivial, b12, A16, cp16, Lr16, hp0, ⟨rfl, rfl, trivial⟩, List.Perm.refl _⟩))⟩
    · exact hS.hi 10 rfl (by kernel_rfl) e10
  · intro ρ L D hS
    rcases hS.sp with ⟨e4, e8, e10, -, hρ, hL⟩ | ⟨e4, e8, e10, -, b12, hρ, hL⟩ | ⟨e4, e8, e10, -, b12, A16, cp16, Lr16, hp0, hρ, hL⟩ | ⟨e4, e8, e10, -, b12, A16, cp16, Lr16, hp0, hρ, hL⟩
    · clear hS hρ
      obtain ⟨base, rfl⟩ := Has.base (ρ := ρ) (l := []) trivial
      refine RL.perm (L' := []) rfl hL.symm ?_
      clear hL
      refine RL.bs0 rfl rfl sl35 ?_
      intro b12 hb12
      refine RL.nil ?_
      exact ⟨rfl, ⟨_, rfl, trivial⟩, .inr (.inl ⟨rfl, e8, e10, trivial, b12, ⟨rfl, trivial⟩, (by classical exact List.perm_iff_count.2 (fun z => by simp only [List.count_append, List.count_cons, List.count_nil, List.cons_append, List.nil_append, List.append_nil, List.set_cons_zero, List.set_cons_succ] <;> omega))⟩)⟩
    · exact hS.me e4
    · exact hS.hi 8 rfl (by kernel_rfl) e8
    · exact hS.hi 8 rfl (by kernel_rfl) e8
  · intro ρ L D hS
    rcases hS.sp with ⟨e4, e8, e10, -, hρ, hL⟩ | ⟨e4, e8, e10, -, b12, hρ, hL⟩ | ⟨e4, e8, e10, -, b12, A16, cp16, Lr16, hp0, hρ, hL⟩ | ⟨e4, e8, e10, -, b12, A16, cp16, Lr16, hp0, hρ, hL⟩
    · have u0 : ρ 0 = .slice (some ⟨bb, oo, none⟩) xs.length c := hS.fix 0 (by decide)
      clear hS hρ
      obtain ⟨base, rfl⟩ := Has.base (ρ := ρ) (l := [(0, .slice (some ⟨bb, oo, none⟩) xs.length c)]) ⟨u0, trivial⟩
      clear u0
      refine RL.perm (L' := []) rfl hL.symm ?_
      clear hL
      refine RL.move rfl ?_
      refine RL.nil ?_
      exact ⟨rfl, ⟨_, rfl, rfl⟩, .inl ⟨e4, e8, e10, trivial, trivial, List.Perm.refl _⟩⟩
    · have u0 : ρ 0 = .slice (some ⟨bb, oo, none⟩) xs.length c := hS.fix 0 (by decide)
      have u12 : ρ 12 = .slice (some ⟨b12, 0, none⟩) 0 0 := hρ.1
      clear hS hρ
      obtain ⟨base, rfl⟩ := Has.base (ρ := ρ) (l := [(0, .slice (some ⟨bb, oo, none⟩) xs.length c), (12, .slice (some ⟨b12, 0, none⟩) 0 0)]) ⟨u0, u12, trivial⟩
      clear u0 u12
      refine RL.perm (L' := ([(b12, cel 2 [])])) rfl hL.symm ?_
      clear hL
      refine RL.move rfl ?_
      refine RL.nil ?_
      exact ⟨rfl, ⟨_, rfl, rfl⟩, .inr (.inl ⟨e4, e8, e10, trivial, b12, ⟨rfl, trivial⟩, List.Perm.refl _⟩)⟩
    · exact hS.hi 8 rfl (by kernel_rfl) e8
    · exact hS.hi 8 rfl (by kernel_rfl) e8
  · intro ρ L D hS
    rcases hS.sp with ⟨e4, e8, e10, -, hρ, hL⟩ | ⟨e4, e8, e10, -, b12, hρ, hL⟩ | ⟨e4, e8, e10, -, b12, A16, cp16, Lr16, hp0, hρ, hL⟩ | ⟨e4, e8, e10, -, b12, A16, cp16, Lr16, hp0, hρ, hL⟩
    · have u4 : ρ 4 = .int .i64 (((xs.length : Nat) : Int) - 1) := hS.fix 4 (by decide)
      clear hS hρ
      obtain ⟨base, rfl⟩ := Has.base (ρ := ρ) (l := [(4, .int .i64 (((xs.length : Nat) : Int) - 1))]) ⟨u4, trivial⟩
      clear u4
      refine RL.perm (L' := []) rfl hL.symm ?_
      clear hL
      refine RL.move rfl ?_
      refine RL.nil ?_
      exact ⟨rfl, ⟨_, rfl, rfl⟩, .inl ⟨e4, e8, e10, trivial, trivial, List.Perm.refl _⟩⟩
    · have u4 : ρ 4 = .int .i64 (((xs.length : Nat) : Int) - 1) := hS.fix 4 (by decide)
      have u12 : ρ 12 = .slice (some ⟨b12, 0, none⟩) 0 0 := hρ.1
      clear hS hρ
      obtain ⟨base, rfl⟩ := Has.base (ρ := ρ) (l := [(4, .int .i64 (((xs.length : Nat) : Int) - 1)), (12, .slice (some ⟨b12, 0, none⟩) 0 0)]) ⟨u4, u12, trivial⟩
      clear u4 u12
      refine RL.perm (L' := ([(b12, cel 2 [])])) rfl hL.symm ?_
      clear hL
      refine RL.move rfl ?_
      refine RL.nil ?_
      exact ⟨rfl, ⟨_, rfl, rfl⟩, .inr (.inl ⟨e4, e8, e10, trivial, b12, ⟨rfl, trivial⟩, List.Perm.refl _⟩)⟩
    · exact hS.hi 8 rfl (by kernel_rfl) e8
    · exact hS.hi 8 rfl (by kernel_rfl) e8
  · intro ρ L D hS
    rcases hS.sp with ⟨e4, e8, e10, -, hρ, hL⟩ | ⟨e4, e8, e10, -, b12, hρ, hL⟩ | ⟨e4, e8, e10, -, b12, A16, cp16, Lr16, hp0, hρ, hL⟩ | ⟨e4, e8, e10, -, b12, A16, cp16, Lr16, hp0, hρ, hL⟩
    · have u13 : ρ 13 = .slice (some ⟨bb, oo, none⟩) xs.length c := hS.dep ⟨5, Ground.data⟩ (by simp) rfl _ _ rfl rfl
      have u14 : ρ 14 = .int .i64 (((xs.length : Nat) : Int) - 1) := hS.dep ⟨6, Ground.data⟩ (by simp) rfl _ _ rfl rfl
      clear hS hρ
      obtain ⟨base, rfl⟩ := Has.base (ρ := ρ) (l := [(13, .slice (some ⟨bb, oo, none⟩) xs.length c), (14, .int .i64 (((xs.length : Nat) : Int) - 1))]) ⟨u13, u14, trivial⟩
      clear u13 u14
      refine RL.perm (L' := []) rfl hL.symm ?_
      clear hL
      refine RL.sliceHi1 (j := xs.dropLast.length) rfl sl35 rfl rfl (by omega) (by omega) (by omega) ?_
      refine RL.nil ?_
      exact ⟨rfl, ⟨_, rfl, rfl⟩, .inl ⟨e4, e8, e10, trivial, trivial, List.Perm.refl _⟩⟩
    · have u12 : ρ 12 = .slice (some ⟨b12, 0, none⟩) 0 0 := hρ.1
      have u13 : ρ 13 = .slice (some ⟨bb, oo, none⟩) xs.length c := hS.dep ⟨5, Ground.data⟩ (by simp) rfl _ _ rfl rfl
      have u14 : ρ 14 = .int .i64 (((xs.length : Nat) : Int) - 1) := hS.dep ⟨6, Ground.data⟩ (by simp) rfl _ _ rfl rfl
      clear hS hρ
      obtain ⟨base, rfl⟩ := Has.base (ρ := ρ) (l := [(12, .slice (some ⟨b12, 0, none⟩) 0 0), (13, .slice (some ⟨bb, oo, none⟩) xs.length c), (14, .int .i64 (((xs.length : Nat) : Int) - 1))]) ⟨u12, u13, u14, trivial⟩
      clear u12 u13 u14
      refine RL.perm (L' := ([(b12, cel 2 [])])) rfl hL.symm ?_
      clear hL
      refine RL.sliceHi1 (j := xs.dropLast.length) rfl sl35 rfl rfl (by omega) (by omega) (by omega) ?_
      refine RL.nil ?_
      exact ⟨rfl, ⟨_, rfl, rfl⟩, .inr (.inl ⟨e4, e8, e10, trivial, b12, ⟨rfl, trivial⟩, List.Perm.refl _⟩)⟩
    · exact hS.hi 8 rfl (by kernel_rfl) e8
    · exact hS.hi 8 rfl (by kernel_rfl) e8
  · intro ρ L D hS
    rcases hS.sp with ⟨e4, e8, e10, -, hρ, hL⟩ | ⟨e4, e8, e10, -, b12, hρ, hL⟩ | ⟨e4, e8, e10, -, b12, A16, cp16, Lr16, hp0, hρ, hL⟩ | ⟨e4, e8, e10, -, b12, A16, cp16, Lr16, hp0, hρ, hL⟩
    · exact hS.lo 4 (by kernel_rfl) e4
    · have u12 : ρ 12 = .slice (some ⟨b12, 0, none⟩) 0 0 := hρ.1
      have u15 : ρ 15 = .slice (some ⟨bb, oo, none⟩) xs.dropLast.length c := hS.dep ⟨7, Ground.data⟩ (by simp) rfl _ _ rfl rfl
      clear hS hρ
      obtain ⟨base, rfl⟩ := Has.base (ρ := ρ) (l := [(12, .slice (some ⟨b12, 0, none⟩) 0 0), (15, .slice (some ⟨bb, oo, none⟩) xs.dropLast.length c)]) ⟨u12, u15, trivial⟩
      clear u12 u15
      refine RL.perm (L' := ([(b12, cel 2 [])])) rfl hL.symm ?_
      clear hL
      refine RL.append (xs := []) (Lr := [(b12, cel 2 [])]) (Lz := []) (ys := ints xs.dropLast) rfl rfl sl35 el_i64 (by decide) (by decide) Try.underlying35 (List.Perm.refl _) rfl (Row.blk b12 0 0 [] [] rfl rfl (Nat.le_refl _)) rfl (by rw [ints_length, Nat.mul_one]) (ints_one _) (fun w2 hw2 => ?_) (fun m hm => by simp only [List.length_nil] at hm; omega) ?_
      · exact .inr ⟨bb, oo, rfl, hw2.cellsI (fun j v hv => hc j v (ints_drop hv)) (by simp)⟩
      rw [List.nil_append]
      intro v2 Lr16 hrow
      rw [List.append_nil]
      obtain ⟨A16, m2, cp16, rfl, hm2, _, _⟩ := hrow.slice (by decide)
      obtain rfl : m2 = xs.dropLast.length := by rw [ints_length] at hm2; omega
      refine RL.nil ?_
      exact ⟨rfl, ⟨_, rfl, trivial⟩, .inr (.inr (.inl ⟨e4, rfl, e10, trivial, b12, A16, cp16, Lr16, hrow, ⟨rfl, rfl, trivial⟩, (by classical exact List.perm_iff_count.2 (fun z => by simp only [List.count_append, List.count_cons, List.count_nil, List.cons_append, List.nil_append, List.append_nil, List.set_cons_zero, List.set_cons_succ] <;> omega))⟩))⟩
    · exact hS.me e8
    · exact hS.hi 10 rfl (by kernel_rfl) e10
  · intro ρ L D hS
    rcases hS.sp with ⟨e4, e8, e10, -, hρ, hL⟩ | ⟨e4, e8, e10, -, b12, hρ, hL⟩ | ⟨e4, e8, e10, -, b12, A16, cp16, Lr16, hp0, hρ, hL⟩ | ⟨e4, e8, e10, -, b12, A16, cp16, Lr16, hp0, hρ, hL⟩
    · exact hS.lo 4 (by kernel_rfl) e4
    · exact hS.lo 8 (by kernel_rfl) e8
    · have u11 : ρ 11 = .int .i64 (top xs) := hS.dep ⟨3, Ground.data⟩ (by simp) rfl _ _ rfl rfl
      have u12 : ρ 12 = .slice (some ⟨b12, 0, none⟩) 0 0 := hρ.1
      have u16 : ρ 16 = .slice A16 xs.dropLast.length cp16 := hρ.2.1
      clear hS hρ
      obtain ⟨base, rfl⟩ := Has.base (ρ := ρ) (l := [(11, .int .i64 (top xs)), (12, .slice (some ⟨b12, 0, none⟩) 0 0), (16, .slice A16 xs.dropLast.length cp16)]) ⟨u11, u12, u16, trivial⟩
      clear u11 u12 u16
      refine RL.perm (L' := (Lr16)) rfl hL.symm ?_
      clear hL
      refine RL.assign rfl ?_
      refine RL.nil ?_
      exact ⟨rfl, ⟨_, rfl, rfl⟩, .inr (.inr (.inl ⟨e4, e8, e10, trivial, b12, A16, cp16, Lr16, hp0, ⟨rfl, rfl, trivial⟩, List.Perm.refl _⟩))⟩
    · exact hS.hi 10 rfl (by kernel_rfl) e10
  · intro ρ L D hS
    rcases hS.sp with ⟨e4, e8, e10, -, hρ, hL⟩ | ⟨e4, e8, e10, -, b12, hρ, hL⟩ | ⟨e4, e8, e10, -, b12, A16, cp16, Lr16, hp0, hρ, hL⟩ | ⟨e4, e8, e10, -, b12, A16, cp16, Lr16, hp0, hρ, hL⟩
    · exact hS.lo 4 (by kernel_rfl) e4
    · exact hS.lo 8 (by kernel_rfl) e8
    · have u12 : ρ 12 = .slice (some ⟨b12, 0, none⟩) 0 0 := hρ.1
      have u16 : ρ 16 = .slice A16 xs.dropLast.length cp16 := hρ.2.1
      clear hS hρ
      obtain ⟨base, rfl⟩ := Has.base (ρ := ρ) (l := [(12, .slice (some ⟨b12, 0, none⟩) 0 0), (16, .slice A16 xs.dropLast.length cp16)]) ⟨u12, u16, trivial⟩
      clear u12 u16
      refine RL.perm (L' := (Lr16)) rfl hL.symm ?_
      clear hL
      refine RL.assign rfl ?_
      refine RL.nil ?_
      exact ⟨rfl, ⟨_, rfl, trivial⟩, .inr (.inr (.inr (⟨e4, e8, rfl, trivial, b12, A16, cp16, Lr16, hp0, ⟨rfl, rfl, rfl, trivial⟩, (by classical exact List.perm_iff_count.2 (fun z => by simp only [List.count_append, List.count_cons, List.count_nil, List.cons_append, List.nil_append, List.append_nil, List.set_cons_zero, List.set_cons_succ] <;> omega))⟩)))⟩
    · exact hS.me e10
  · intro ρ L D hD hT hfix hsp
    rcases hsp with ⟨e4, e8, e10, -, hρ, hL⟩ | ⟨e4, e8, e10, -, b12, hρ, hL⟩ | ⟨e4, e8, e10, -, b12, A16, cp16, Lr16, hp0, hρ, hL⟩ | ⟨e4, e8, e10, -, b12, A16, cp16, Lr16, hp0, hρ, hL⟩
    · exact done_no hD 4 rfl e4
    · exact done_no hD 8 rfl e8
    · exact done_no hD 10 rfl e10
    · have u2 : ρ 2 = .int .i64 (top xs) := hT 9 _ _ rfl rfl
      have u3 : ρ 3 = .slice A16 xs.dropLast.length cp16 := hρ.1
      have u12 : ρ 12 = .slice (some ⟨b12, 0, none⟩) 0 0 := hρ.2.1
      have u16 : ρ 16 = .slice A16 xs.dropLast.length cp16 := hρ.2.2.1
      clear hT hfix hD hρ
      obtain ⟨base, rfl⟩ := Has.base (ρ := ρ) (l := [(2, .int .i64 (top xs)), (3, .slice A16 xs.dropLast.length cp16), (12, .slice (some ⟨b12, 0, none⟩) 0 0), (16, .slice A16 xs.dropLast.length cp16)]) ⟨u2, u3, u12, u16, trivial⟩
      refine ⟨_, hL.symm, (Lr16), List.Sublist.refl _, ?_⟩
      refine X.ret ?_
      refine ret2 rfl ?_
      exact ⟨A16, cp16, Lr16, rfl, hp0, List.Sublist.refl _⟩
end Go.Proofs.Ytekepfpkihnodaa

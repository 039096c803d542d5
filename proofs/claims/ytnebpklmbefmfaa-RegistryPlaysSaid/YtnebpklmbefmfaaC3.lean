/- The form of a module, told by the program. -/
import Derived.Test.YtnebpklmbefmfaaC1
import Derived.Test.YtnebpklmbefmfaaClassE
set_option linter.unusedVariables false
set_option linter.unusedSimpArgs false
namespace Go.Proofs.Ytnebpklmbefmfaa
open Go.RowKit
attribute [local irreducible] X RL W Ctr
set_option maxHeartbeats 2000000 in
set_option maxRecDepth 20000 in
theorem f_encode (m : List Cl) (hsz : ∀ c ∈ m, ClSz c) (hlen : m.length ≤ 1000) (A : Option Addr) (n : Nat) (w : World) (hm : ModR w m A) :
    Ctr Try.prog 30 [.agg #[.slice A m.length n]] w [] fun v L => if (mcheckP m).2 = 0 then ∃ A2 n2 cp2 Lr2, v = .tuple #[.slice A2 n2 cp2, .int .i64 0] ∧ Row 5 1 (.slice A2 (n2) cp2) (gcells (encP m)) Lr2 ∧ Lr2.Sublist L ∧ n2 ≤ 20000 else v = .tuple #[.slice none 0 0, .int .i64 (mcheckP m).2] := by
 have hm1 := hm
 obtain ⟨bb, oo, hA, hc⟩ := hm.open
 refine Ctr.intro0 (n := 120) Try.func30 rfl Try.ntmps30 (Nat.le_of_ble_eq_true rfl) ?_
 refine X.seq ?_
 refine X.region rfl ?_
 refine RL.boxA rfl rfl rfl ?_
 intro b1 hb1
 dsimp only at hb1
 refine RL.assign rfl ?_
 refine RL.assign rfl ?_
 refine RL.nil ?_
 refine X.seq ?_
 refine X.seq ?_
 refine X.region rfl ?_
 refine RL.loadOA rfl ag30 rfl rfl rfl ?_
 refine RL.fn0 rfl rfl rfl en39 (fun w hw => (f_mcheck m hsz hlen A n w (hm1.st0 hw))) rfl ?_
 rintro _ _ rfl
 refine RL.move rfl ?_
 refine RL.extract rfl rfl rfl ?_
 refine RL.extract rfl rfl rfl ?_
 refine RL.assign rfl ?_
 refine RL.assign rfl ?_
 refine RL.nil ?_
 refine X.seq ?_
 refine X.region rfl ?_
 refine RL.move rfl ?_
 refine RL.cmp_s rfl rfl rfl rfl (fun hbad => ?_) (fun hbad => ?_)
 ·replace hbad : (_ : Int) ≠ _ := hbad
  refine RL.nil ?_
  refine X.cond_t rfl ?_
  refine X.seq ?_
  refine X.region rfl ?_
  refine RL.move rfl ?_
  refine RL.assign rfl ?_
  refine RL.assign rfl ?_
  refine RL.nil ?_
  refine X.ret ?_
  refine ret2 rfl ?_
  show ite ((mcheckP m).2 = 0) _ _
  rw [if_neg hbad]
 replace hbad : ¬ ((_ : Int) ≠ _) := hbad
 have hok : (mcheckP m).2 = 0 := Decidable.not_not.1 hbad
 obtain ⟨hm8, hmv⟩ := mcheck_v hok
 refine RL.nil ?_
 refine X.cond_f rfl ?_
 refine X.skip ?_
 refine X.seq ?_
 refine X.region rfl ?_
 refine RL.fieldAddr rfl fd30_0 rfl ?_
 refine RL.loadO rfl sc28 rfl rfl ?_
 refine RL.len rfl sl28 rfl ?_
 refine RL.conv rfl Try.underlying3 Try.underlying5 rfl ?_
 refine RL.bs1U rfl rfl sl84 zt5 rfl ?_
 intro bb0 hbb0
 refine RL.assign rfl ?_
 refine RL.nil ?_
 refine X.seq ?_
 refine X.seq ?_
 refine X.region rfl ?_
 refine RL.fieldAddr rfl fd30_0 rfl ?_
 refine RL.loadO rfl sc28 rfl rfl ?_
 refine RL.len rfl sl28 rfl ?_
 refine RL.move rfl ?_
 refine RL.nil ?_
 refine X.block ?_
 refine X.loop (γ := Nat) (fun g ρ L => ∃ A6 : Option Addr, ∃ n6 : Nat, ∃ cp6 : Nat, ∃ Lr6 : List Ent, (g ≤ m.length) ∧ (Row 5 1 (.slice A6 (n6) cp6) (gcells (u8 m.length :: ((m.take g).map encC).flatten)) Lr6) ∧ (n6 ≤ 1 + 1835 * g) ∧ Has ρ [(1, .pointer (some ⟨b1, 0, none⟩)), (6, .slice A6 n6 cp6), (30, .slice A m.length n), (31, .int .i64 m.length), (32, .int .i64 g)] ∧ L = Lr6 ++ [(b1, cel 30 [.slice A m.length n])]) (fun g => m.length - g) (0) ⟨_, (by repeat (first | exact sb0 _ | exact sb1 _ | (rw [List.append_nil]; exact sb0 _) | exact sb2 _ _ | exact sb3 _ _ _ | apply sb4 | apply sb5 | apply sb6)), some ⟨bb0, 0, none⟩, 1, 1, [(bb0, cel 5 (gcells [u8 m.length]))], Nat.zero_le _, Row.blk bb0 1 1 (gcells [u8 m.length]) [] rfl rfl (Nat.le_refl _), by omega, ⟨rfl, rfl, rfl, rfl, rfl, trivial⟩, rfl⟩ ?_
 rintro g _ _ ⟨A6, n6, cp6, Lr6, hg0, hr6, hn6, hρ, rfl⟩
 obtain ⟨base, rfl⟩ := hρ.base
 clear hρ
 refine X.seq ?_
 refine X.region rfl ?_
 refine RL.cmp_s rfl rfl rfl rfl (fun hg => ?_) (fun hg => ?_)
 ·replace hg : (_ : Int) < _ := hg
  obtain ⟨cl, hcl⟩ : ∃ cl, m[g]? = some cl := ⟨_, List.getElem?_eq_getElem (by omega)⟩
  obtain ⟨cs, hcs, hcr⟩ := hc g cl hcl
  have hcz := hsz cl (List.mem_of_getElem? hcl)
  have hcv := hmv cl (List.mem_of_getElem? hcl)
  obtain ⟨hid, hfo, Af, cf, Am, cm, ms, rfl, ⟨bf, of_, hAf0, hcf⟩, ⟨bm, om, hAm, hcm⟩, hms⟩ := hcr
  rw [hms.1] at hAm
  have hAf : 0 < cl.faces.length → Af = some ⟨bf, of_, none⟩ := fun h => hAf0 (by rw [fcells_len hfo]; omega)
  have hnf := hcv.nf
  have hnm := hcv.nm
  have hsl := hcv.slots
  refine RL.nil ?_
  refine X.seq ?_
  refine X.cond_t rfl ?_
  refine X.skip ?_
  refine X.seq ?_
  refine X.block ?_
  refine X.seq ?_
  refine X.region rfl ?_
  refine RL.indexAddr rfl sl28 rfl rfl (hA (by omega)) rfl (by omega) ?_
  refine RL.loadIA rfl ag69 rfl hcs (by simp) (clCells_len hid) ?_
  refine RL.alloc rfl rfl zt69 ?_
  intro b8 hb8
  dsimp only at hb8
  refine RL.stA rfl rfl ag69.size rfl rfl (clCells_len hid) rfl clCells_one ?_
  refine RL.nil ?_
  refine X.seq ?_
  refine X.set [.val (.slice A6 n6 cp6), .val (.pointer (some ⟨b8, 0 + 0, none⟩)), .val (.slice (some ⟨b8, 0 + 0, none⟩) 16 16), .any, .val (.pointer (some ⟨b8, 0 + 16, none⟩)), .val (.slice Af cl.faces.length cf), .val (.int .i64 (((cl.faces.length : Nat)) : Int)), .val (.int .u8 (u8 cl.faces.length)), .any, .any, .any] [[], [], [1], [0, 1, 2], [], [4], [4, 5], [4, 5, 6], [4, 5, 6, 7], [0, 1, 2, 3, 4, 5, 6, 7, 8], [0, 1, 2, 3, 4, 5, 6, 7, 8, 9]] (fun D ρ L => (D 3 = false ∧ D 8 = false ∧ D 9 = false ∧ D 10 = false ∧ True ∧ Has ρ [] ∧ L.Perm ((Lr6) ++ (([(b8, cel 69 (clCells cl.id (.slice Af cl.faces.length cf) cl.slots (.slice Am cl.methods.length cm)))]) ++ ([(b1, cel 30 [.slice A m.length n])])))) ∨ (D 3 = true ∧ D 8 = false ∧ D 9 = false ∧ D 10 = false ∧ True ∧ ∃ A7a : Option Addr, ∃ cp7a : Nat, ∃ Lr7a : List Ent, (Row 5 1 (.slice A7a (n6 + 16) cp7a) (gcells ((u8 m.length :: ((m.take g).map encC).flatten) ++ cl.id)) Lr7a) ∧ Has ρ [(39, .slice A7a (n6 + 16) cp7a)] ∧ L.Perm ((Lr7a) ++ (([(b8, cel 69 (clCells cl.id (.slice Af cl.faces.length cf) cl.slots (.slice Am cl.methods.length cm)))]) ++ ([(b1, cel 30 [.slice A m.length n])])))) ∨ (D 3 = false ∧ D 8 = true ∧ D 9 = false ∧ D 10 = false ∧ True ∧ ∃ bb7 : Nat, Has ρ [(44, .slice (some ⟨bb7, 0, none⟩) 1 1)] ∧ L.Perm ((Lr6) ++ (([(b8, cel 69 (clCells cl.id (.slice Af cl.faces.length cf) cl.slots (.slice Am cl.methods.length cm)))]) ++ (([(b1, cel 30 [.slice A m.length n])]) ++ ([(bb7, cel 5 (gcells [u8 cl.faces.length]))]))))) ∨ (D 3 = true ∧ D 8 = true ∧ D 9 = false ∧ D 10 = false ∧ True ∧ ∃ A7a : Option Addr, ∃ cp7a : Nat, ∃ Lr7a : List Ent, ∃ bb7 : Nat, (Row 5 1 (.slice A7a (n6 + 16) cp7a) (gcells ((u8 m.length :: ((m.take g).map encC).flatten) ++ cl.id)) Lr7a) ∧ Has ρ [(39, .slice A7a (n6 + 16) cp7a), (44, .slice (some ⟨bb7, 0, none⟩) 1 1)] ∧ L.Perm ((Lr7a) ++ (([(b8, cel 69 (clCells cl.id (.slice Af cl.faces.length cf) cl.slots (.slice Am cl.methods.length cm)))]) ++ (([(b1, cel 30 [.slice A m.length n])]) ++ ([(bb7, cel 5 (gcells [u8 cl.faces.length]))]))))) ∨ (D 3 = true ∧ D 8 = true ∧ D 9 = true ∧ D 10 = false ∧ True ∧ ∃ A7a : Option Addr, ∃ cp7a : Nat, ∃ Lr7a : List Ent, ∃ bb7 : Nat, ∃ A7b : Option Addr, ∃ cp7b : Nat, ∃ Lr7b : List Ent, (Row 5 1 (.slice A7a (n6 + 16) cp7a) (gcells ((u8 m.length :: ((m.take g).map encC).flatten) ++ cl.id)) Lr7a) ∧ (Row 5 1 (.slice A7b (n6 + 16 + 1) cp7b) (gcells (((u8 m.length :: ((m.take g).map encC).flatten) ++ cl.id) ++ [u8 cl.faces.length])) Lr7b) ∧ Has ρ [(39, .slice A7a (n6 + 16) cp7a), (44, .slice (some ⟨bb7, 0, none⟩) 1 1), (45, .slice A7b (n6 + 16 + 1) cp7b)] ∧ L.Perm ((Lr7b) ++ (([(b8, cel 69 (clCells cl.id (.slice Af cl.faces.length cf) cl.slots (.slice Am cl.methods.length cm)))]) ++ (([(b1, cel 30 [.slice A m.length n])]) ++ ([(bb7, cel 5 (gcells [u8 cl.faces.length]))]))))) ∨ (D 3 = true ∧ D 8 = true ∧ D 9 = true ∧ D 10 = true ∧ True ∧ ∃ A7a : Option Addr, ∃ cp7a : Nat, ∃ Lr7a : List Ent, ∃ bb7 : Nat, ∃ A7b : Option Addr, ∃ cp7b : Nat, ∃ Lr7b : List Ent, (Row 5 1 (.slice A7a (n6 + 16) cp7a) (gcells ((u8 m.length :: ((m.take g).map encC).flatten) ++ cl.id)) Lr7a) ∧ (Row 5 1 (.slice A7b (n6 + 16 + 1) cp7b) (gcells (((u8 m.length :: ((m.take g).map encC).flatten) ++ cl.id) ++ [u8 cl.faces.length])) Lr7b) ∧ Has ρ [(6, .slice A7b (n6 + 16 + 1) cp7b), (39, .slice A7a (n6 + 16) cp7a), (44, .slice (some ⟨bb7, 0, none⟩) 1 1), (45, .slice A7b (n6 + 16 + 1) cp7b)] ∧ L.Perm ((Lr7b) ++ (([(b8, cel 69 (clCells cl.id (.slice Af cl.faces.length cf) cl.slots (.slice Am cl.methods.length cm)))]) ++ (([(b1, cel 30 [.slice A m.length n])]) ++ ([(bb7, cel 5 (gcells [u8 cl.faces.length]))])))))) rfl (by kernel_rfl) (by kernel_rfl) (by kernel_rfl) (by kernel_rfl) (fun D hD => .inl ⟨hD 3, hD 8, hD 9, hD 10, trivial, trivial, (pmm fun _ _ z => by simp only [pm1, pm2, pm3, pm4, pm5, pm6, List.cons_append, List.nil_append] <;> omega)⟩) ⟨?_, ?_, ?_, ?_, ?_, ?_, ?_, ?_, ?_, ?_, ?_, trivial⟩ ?_
  ·intro ρ L D hS
   rcases hS.sp with ⟨e3, e8, e9, e10, -, hρ, hL⟩ | ⟨e3, e8, e9, e10, -, A7a, cp7a, Lr7a, hp0, hρ, hL⟩ | ⟨e3, e8, e9, e10, -, bb7, hρ, hL⟩ | ⟨e3, e8, e9, e10, -, A7a, cp7a, Lr7a, bb7, hp0, hρ, hL⟩ | ⟨e3, e8, e9, e10, -, A7a, cp7a, Lr7a, bb7, A7b, cp7b, Lr7b, hp0, hp1, hρ, hL⟩ | ⟨e3, e8, e9, e10, -, A7a, cp7a, Lr7a, bb7, A7b, cp7b, Lr7b, hp0, hp1, hρ, hL⟩
   ·have u6 : ρ 6 = .slice A6 n6 cp6 := hS.old 10 _ 6 rfl rfl ⟨⟨0, Ground.phase⟩, by simp, rfl, rfl⟩
    clear hS hρ
    obtain ⟨base, rfl⟩ := Has.base (ρ := ρ) (l := [(6, .slice A6 n6 cp6)]) ⟨u6, trivial⟩
    clear u6
    refine RL.perm rfl hL.symm ?_
    clear hL
    refine RL.move rfl ?_
    refine RL.nil ?_
    exact ⟨rfl, ⟨_, rfl, rfl⟩, .inl ⟨e3, e8, e9, e10, trivial, trivial, List.Perm.refl _⟩⟩
   ·exact hS.hi 3 rfl (by kernel_rfl) e3
   ·have u6 : ρ 6 = .slice A6 n6 cp6 := hS.old 10 _ 6 rfl rfl ⟨⟨0, Ground.phase⟩, by simp, rfl, rfl⟩
    have u44 : ρ 44 = .slice (some ⟨bb7, 0, none⟩) 1 1 := hρ.1
    clear hS hρ
    obtain ⟨base, rfl⟩ := Has.base (ρ := ρ) (l := [(6, .slice A6 n6 cp6), (44, .slice (some ⟨bb7, 0, none⟩) 1 1)]) ⟨u6, u44, trivial⟩
    clear u6 u44
    refine RL.perm rfl hL.symm ?_
    clear hL
    refine RL.move rfl ?_
    refine RL.nil ?_
    exact ⟨rfl, ⟨_, rfl, rfl⟩, .inr (.inr (.inl ⟨e3, e8, e9, e10, trivial, bb7, ⟨rfl, trivial⟩, List.Perm.refl _⟩))⟩
   ·exact hS.hi 3 rfl (by kernel_rfl) e3
   ·exact hS.hi 3 rfl (by kernel_rfl) e3
   exact hS.hi 3 rfl (by kernel_rfl) e3
  ·intro ρ L D hS
   rcases hS.sp with ⟨e3, e8, e9, e10, -, hρ, hL⟩ | ⟨e3, e8, e9, e10, -, A7a, cp7a, Lr7a, hp0, hρ, hL⟩ | ⟨e3, e8, e9, e10, -, bb7, hρ, hL⟩ | ⟨e3, e8, e9, e10, -, A7a, cp7a, Lr7a, bb7, hp0, hρ, hL⟩ | ⟨e3, e8, e9, e10, -, A7a, cp7a, Lr7a, bb7, A7b, cp7b, Lr7b, hp0, hp1, hρ, hL⟩ | ⟨e3, e8, e9, e10, -, A7a, cp7a, Lr7a, bb7, A7b, cp7b, Lr7b, hp0, hp1, hρ, hL⟩
   ·have u8 : ρ 8 = .pointer (some ⟨b8, 0, none⟩) := hS.fix 8 (by decide)
    clear hS hρ
    obtain ⟨base, rfl⟩ := Has.base (ρ := ρ) (l := [(8, .pointer (some ⟨b8, 0, none⟩))]) ⟨u8, trivial⟩
    clear u8
    refine RL.perm rfl hL.symm ?_
    clear hL
    refine RL.fieldAddr rfl fd69_0 rfl ?_
    refine RL.nil ?_
    exact ⟨rfl, ⟨_, rfl, rfl⟩, .inl ⟨e3, e8, e9, e10, trivial, trivial, List.Perm.refl _⟩⟩
   ·exact hS.hi 3 rfl (by kernel_rfl) e3
   ·have u8 : ρ 8 = .pointer (some ⟨b8, 0, none⟩) := hS.fix 8 (by decide)
    have u44 : ρ 44 = .slice (some ⟨bb7, 0, none⟩) 1 1 := hρ.1
    clear hS hρ
    obtain ⟨base, rfl⟩ := Has.base (ρ := ρ) (l := [(8, .pointer (some ⟨b8, 0, none⟩)), (44, .slice (some ⟨bb7, 0, none⟩) 1 1)]) ⟨u8, u44, trivial⟩
    clear u8 u44
    refine RL.perm rfl hL.symm ?_
    clear hL
    refine RL.fieldAddr rfl fd69_0 rfl ?_
    refine RL.nil ?_
    exact ⟨rfl, ⟨_, rfl, rfl⟩, .inr (.inr (.inl ⟨e3, e8, e9, e10, trivial, bb7, ⟨rfl, trivial⟩, List.Perm.refl _⟩))⟩
   ·exact hS.hi 3 rfl (by kernel_rfl) e3
   ·exact hS.hi 3 rfl (by kernel_rfl) e3
   exact hS.hi 3 rfl (by kernel_rfl) e3
  ·intro ρ L D hS
   rcases hS.sp with ⟨e3, e8, e9, e10, -, hρ, hL⟩ | ⟨e3, e8, e9, e10, -, A7a, cp7a, Lr7a, hp0, hρ, hL⟩ | ⟨e3, e8, e9, e10, -, bb7, hρ, hL⟩ | ⟨e3, e8, e9, e10, -, A7a, cp7a, Lr7a, bb7, hp0, hρ, hL⟩ | ⟨e3, e8, e9, e10, -, A7a, cp7a, Lr7a, bb7, A7b, cp7b, Lr7b, hp0, hp1, hρ, hL⟩ | ⟨e3, e8, e9, e10, -, A7a, cp7a, Lr7a, bb7, A7b, cp7b, Lr7b, hp0, hp1, hρ, hL⟩
   ·have u37 : ρ 37 = .pointer (some ⟨b8, 0 + 0, none⟩) := hS.dep ⟨1, Ground.data⟩ (by simp) rfl _ _ rfl rfl
    clear hS hρ
    obtain ⟨base, rfl⟩ := Has.base (ρ := ρ) (l := [(37, .pointer (some ⟨b8, 0 + 0, none⟩))]) ⟨u37, trivial⟩
    clear u37
    refine RL.perm rfl hL.symm ?_
    clear hL
    refine RL.sliceArr rfl Try.underlying47 sc5.size rfl ?_
    refine RL.nil ?_
    exact ⟨rfl, ⟨_, rfl, rfl⟩, .inl ⟨e3, e8, e9, e10, trivial, trivial, List.Perm.refl _⟩⟩
   ·exact hS.hi 3 rfl (by kernel_rfl) e3
   ·have u37 : ρ 37 = .pointer (some ⟨b8, 0 + 0, none⟩) := hS.dep ⟨1, Ground.data⟩ (by simp) rfl _ _ rfl rfl
    have u44 : ρ 44 = .slice (some ⟨bb7, 0, none⟩) 1 1 := hρ.1
    clear hS hρ
    obtain ⟨base, rfl⟩ := Has.base (ρ := ρ) (l := [(37, .pointer (some ⟨b8, 0 + 0, none⟩)), (44, .slice (some ⟨bb7, 0, none⟩) 1 1)]) ⟨u37, u44, trivial⟩
    clear u37 u44
    refine RL.perm rfl hL.symm ?_
    clear hL
    refine RL.sliceArr rfl Try.underlying47 sc5.size rfl ?_
    refine RL.nil ?_
    exact ⟨rfl, ⟨_, rfl, rfl⟩, .inr (.inr (.inl ⟨e3, e8, e9, e10, trivial, bb7, ⟨rfl, trivial⟩, List.Perm.refl _⟩))⟩
   ·exact hS.hi 3 rfl (by kernel_rfl) e3
   ·exact hS.hi 3 rfl (by kernel_rfl) e3
   exact hS.hi 3 rfl (by kernel_rfl) e3
  ·intro ρ L D hS
   rcases hS.sp with ⟨e3, e8, e9, e10, -, hρ, hL⟩ | ⟨e3, e8, e9, e10, -, A7a, cp7a, Lr7a, hp0, hρ, hL⟩ | ⟨e3, e8, e9, e10, -, bb7, hρ, hL⟩ | ⟨e3, e8, e9, e10, -, A7a, cp7a, Lr7a, bb7, hp0, hρ, hL⟩ | ⟨e3, e8, e9, e10, -, A7a, cp7a, Lr7a, bb7, A7b, cp7b, Lr7b, hp0, hp1, hρ, hL⟩ | ⟨e3, e8, e9, e10, -, A7a, cp7a, Lr7a, bb7, A7b, cp7b, Lr7b, hp0, hp1, hρ, hL⟩
   ·have u36 : ρ 36 = .slice A6 n6 cp6 := hS.dep ⟨0, Ground.data⟩ (by simp) rfl _ _ rfl rfl
    have u38 : ρ 38 = .slice (some ⟨b8, 0 + 0, none⟩) 16 16 := hS.dep ⟨2, Ground.data⟩ (by simp) rfl _ _ rfl rfl
    clear hS hρ
    obtain ⟨base, rfl⟩ := Has.base (ρ := ρ) (l := [(36, .slice A6 n6 cp6), (38, .slice (some ⟨b8, 0 + 0, none⟩) 16 16)]) ⟨u36, u38, trivial⟩
    clear u36 u38
    refine RL.perm rfl hL.symm ?_
    clear hL
    refine RL.appG (Lr := Lr6) (xs := gcells (u8 m.length :: ((m.take g).map encC).flatten)) (ys := gcells cl.id) (N := n6 + 16) rfl rfl sl84 el_u8 (by decide) (by decide) Try.underlying84 (List.Perm.refl _) rfl hr6 rfl (by rw [gcells_len, hid]) (gcells_one _) (fun w2 hw2 => .inr ⟨_, _, rfl, own_id hid hw2 (show (b8, cel 69 (clCells cl.id (.slice Af cl.faces.length cf) cl.slots (.slice Am cl.methods.length cm))) ∈ _ by simp)⟩) (by omega) rfl ?_
    intro A7a cp7a Lr7a hr7a
    rw [← gcells_app] at hr7a
    refine RL.nil ?_
    exact ⟨rfl, ⟨_, rfl, trivial⟩, .inr (.inl ⟨rfl, e8, e9, e10, trivial, A7a, cp7a, Lr7a, hr7a, ⟨rfl, trivial⟩, (pmm fun _ _ z => by simp only [pm1, pm2, pm3, pm4, pm5, pm6, List.cons_append, List.nil_append] <;> omega)⟩)⟩
   ·exact hS.me e3
   ·have u36 : ρ 36 = .slice A6 n6 cp6 := hS.dep ⟨0, Ground.data⟩ (by simp) rfl _ _ rfl rfl
    have u38 : ρ 38 = .slice (some ⟨b8, 0 + 0, none⟩) 16 16 := hS.dep ⟨2, Ground.data⟩ (by simp) rfl _ _ rfl rfl
    have u44 : ρ 44 = .slice (some ⟨bb7, 0, none⟩) 1 1 := hρ.1
    clear hS hρ
    obtain ⟨base, rfl⟩ := Has.base (ρ := ρ) (l := [(36, .slice A6 n6 cp6), (38, .slice (some ⟨b8, 0 + 0, none⟩) 16 16), (44, .slice (some ⟨bb7, 0, none⟩) 1 1)]) ⟨u36, u38, u44, trivial⟩
    clear u36 u38 u44
    refine RL.perm rfl hL.symm ?_
    clear hL
    refine RL.appG (Lr := Lr6) (xs := gcells (u8 m.length :: ((m.take g).map encC).flatten)) (ys := gcells cl.id) (N := n6 + 16) rfl rfl sl84 el_u8 (by decide) (by decide) Try.underlying84 (List.Perm.refl _) rfl hr6 rfl (by rw [gcells_len, hid]) (gcells_one _) (fun w2 hw2 => .inr ⟨_, _, rfl, own_id hid hw2 (show (b8, cel 69 (clCells cl.id (.slice Af cl.faces.length cf) cl.slots (.slice Am cl.methods.length cm))) ∈ _ by simp)⟩) (by omega) rfl ?_
    intro A7a cp7a Lr7a hr7a
    rw [← gcells_app] at hr7a
    refine RL.nil ?_
    exact ⟨rfl, ⟨_, rfl, trivial⟩, .inr (.inr (.inr (.inl ⟨rfl, e8, e9, e10, trivial, A7a, cp7a, Lr7a, bb7, hr7a, ⟨rfl, rfl, trivial⟩, (pmm fun _ _ z => by simp only [pm1, pm2, pm3, pm4, pm5, pm6, List.cons_append, List.nil_append] <;> omega)⟩)))⟩
   ·exact hS.me e3
   ·exact hS.hi 9 rfl (by kernel_rfl) e9
   exact hS.hi 9 rfl (by kernel_rfl) e9
  ·intro ρ L D hS
   rcases hS.sp with ⟨e3, e8, e9, e10, -, hρ, hL⟩ | ⟨e3, e8, e9, e10, -, A7a, cp7a, Lr7a, hp0, hρ, hL⟩ | ⟨e3, e8, e9, e10, -, bb7, hρ, hL⟩ | ⟨e3, e8, e9, e10, -, A7a, cp7a, Lr7a, bb7, hp0, hρ, hL⟩ | ⟨e3, e8, e9, e10, -, A7a, cp7a, Lr7a, bb7, A7b, cp7b, Lr7b, hp0, hp1, hρ, hL⟩ | ⟨e3, e8, e9, e10, -, A7a, cp7a, Lr7a, bb7, A7b, cp7b, Lr7b, hp0, hp1, hρ, hL⟩
   ·have u8 : ρ 8 = .pointer (some ⟨b8, 0, none⟩) := hS.fix 8 (by decide)
    clear hS hρ
    obtain ⟨base, rfl⟩ := Has.base (ρ := ρ) (l := [(8, .pointer (some ⟨b8, 0, none⟩))]) ⟨u8, trivial⟩
    clear u8
    refine RL.perm rfl hL.symm ?_
    clear hL
    refine RL.fieldAddr rfl fd69_1 rfl ?_
    refine RL.nil ?_
    exact ⟨rfl, ⟨_, rfl, rfl⟩, .inl ⟨e3, e8, e9, e10, trivial, trivial, List.Perm.refl _⟩⟩
   ·have u8 : ρ 8 = .pointer (some ⟨b8, 0, none⟩) := hS.fix 8 (by decide)
    have u39 : ρ 39 = .slice A7a (n6 + 16) cp7a := hρ.1
    clear hS hρ
    obtain ⟨base, rfl⟩ := Has.base (ρ := ρ) (l := [(8, .pointer (some ⟨b8, 0, none⟩)), (39, .slice A7a (n6 + 16) cp7a)]) ⟨u8, u39, trivial⟩
    clear u8 u39
    refine RL.perm rfl hL.symm ?_
    clear hL
    refine RL.fieldAddr rfl fd69_1 rfl ?_
    refine RL.nil ?_
    exact ⟨rfl, ⟨_, rfl, rfl⟩, .inr (.inl ⟨e3, e8, e9, e10, trivial, A7a, cp7a, Lr7a, hp0, ⟨rfl, trivial⟩, List.Perm.refl _⟩)⟩
   ·exact hS.hi 8 rfl (by kernel_rfl) e8
   ·exact hS.hi 8 rfl (by kernel_rfl) e8
   ·exact hS.hi 8 rfl (by kernel_rfl) e8
   exact hS.hi 8 rfl (by kernel_rfl) e8
  ·intro ρ L D hS
   rcases hS.sp with ⟨e3, e8, e9, e10, -, hρ, hL⟩ | ⟨e3, e8, e9, e10, -, A7a, cp7a, Lr7a, hp0, hρ, hL⟩ | ⟨e3, e8, e9, e10, -, bb7, hρ, hL⟩ | ⟨e3, e8, e9, e10, -, A7a, cp7a, Lr7a, bb7, hp0, hρ, hL⟩ | ⟨e3, e8, e9, e10, -, A7a, cp7a, Lr7a, bb7, A7b, cp7b, Lr7b, hp0, hp1, hρ, hL⟩ | ⟨e3, e8, e9, e10, -, A7a, cp7a, Lr7a, bb7, A7b, cp7b, Lr7b, hp0, hp1, hρ, hL⟩
   ·have u40 : ρ 40 = .pointer (some ⟨b8, 0 + 16, none⟩) := hS.dep ⟨4, Ground.data⟩ (by simp) rfl _ _ rfl rfl
    clear hS hρ
    obtain ⟨base, rfl⟩ := Has.base (ρ := ρ) (l := [(40, .pointer (some ⟨b8, 0 + 16, none⟩))]) ⟨u40, trivial⟩
    clear u40
    refine RL.perm rfl hL.symm ?_
    clear hL
    refine RL.loadO rfl sc66 rfl (clCells_f hid) ?_
    refine RL.nil ?_
    exact ⟨rfl, ⟨_, rfl, rfl⟩, .inl ⟨e3, e8, e9, e10, trivial, trivial, List.Perm.refl _⟩⟩
   ·have u39 : ρ 39 = .slice A7a (n6 + 16) cp7a := hρ.1
    have u40 : ρ 40 = .pointer (some ⟨b8, 0 + 16, none⟩) := hS.dep ⟨4, Ground.data⟩ (by simp) rfl _ _ rfl rfl
    clear hS hρ
    obtain ⟨base, rfl⟩ := Has.base (ρ := ρ) (l := [(39, .slice A7a (n6 + 16) cp7a), (40, .pointer (some ⟨b8, 0 + 16, none⟩))]) ⟨u39, u40, trivial⟩
    clear u39 u40
    refine RL.perm rfl hL.symm ?_
    clear hL
    refine RL.loadO rfl sc66 rfl (clCells_f hid) ?_
    refine RL.nil ?_
    exact ⟨rfl, ⟨_, rfl, rfl⟩, .inr (.inl ⟨e3, e8, e9, e10, trivial, A7a, cp7a, Lr7a, hp0, ⟨rfl, trivial⟩, List.Perm.refl _⟩)⟩
   ·exact hS.hi 8 rfl (by kernel_rfl) e8
   ·exact hS.hi 8 rfl (by kernel_rfl) e8
   ·exact hS.hi 8 rfl (by kernel_rfl) e8
   exact hS.hi 8 rfl (by kernel_rfl) e8
  ·intro ρ L D hS
   rcases hS.sp with ⟨e3, e8, e9, e10, -, hρ, hL⟩ | ⟨e3, e8, e9, e10, -, A7a, cp7a, Lr7a, hp0, hρ, hL⟩ | ⟨e3, e8, e9, e10, -, bb7, hρ, hL⟩ | ⟨e3, e8, e9, e10, -, A7a, cp7a, Lr7a, bb7, hp0, hρ, hL⟩ | ⟨e3, e8, e9, e10, -, A7a, cp7a, Lr7a, bb7, A7b, cp7b, Lr7b, hp0, hp1, hρ, hL⟩ | ⟨e3, e8, e9, e10, -, A7a, cp7a, Lr7a, bb7, A7b, cp7b, Lr7b, hp0, hp1, hρ, hL⟩
   ·have u41 : ρ 41 = .slice Af cl.faces.length cf := hS.dep ⟨5, Ground.data⟩ (by simp) rfl _ _ rfl rfl
    clear hS hρ
    obtain ⟨base, rfl⟩ := Has.base (ρ := ρ) (l := [(41, .slice Af cl.faces.length cf)]) ⟨u41, trivial⟩
    clear u41
    refine RL.perm rfl hL.symm ?_
    clear hL
    refine RL.len rfl sl66 rfl ?_
    refine RL.nil ?_
    exact ⟨rfl, ⟨_, rfl, rfl⟩, .inl ⟨e3, e8, e9, e10, trivial, trivial, List.Perm.refl _⟩⟩
   ·have u39 : ρ 39 = .slice A7a (n6 + 16) cp7a := hρ.1
    have u41 : ρ 41 = .slice Af cl.faces.length cf := hS.dep ⟨5, Ground.data⟩ (by simp) rfl _ _ rfl rfl
    clear hS hρ
    obtain ⟨base, rfl⟩ := Has.base (ρ := ρ) (l := [(39, .slice A7a (n6 + 16) cp7a), (41, .slice Af cl.faces.length cf)]) ⟨u39, u41, trivial⟩
    clear u39 u41
    refine RL.perm rfl hL.symm ?_
    clear hL
    refine RL.len rfl sl66 rfl ?_
    refine RL.nil ?_
    exact ⟨rfl, ⟨_, rfl, rfl⟩, .inr (.inl ⟨e3, e8, e9, e10, trivial, A7a, cp7a, Lr7a, hp0, ⟨rfl, trivial⟩, List.Perm.refl _⟩)⟩
   ·exact hS.hi 8 rfl (by kernel_rfl) e8
   ·exact hS.hi 8 rfl (by kernel_rfl) e8
   ·exact hS.hi 8 rfl (by kernel_rfl) e8
   exact hS.hi 8 rfl (by kernel_rfl) e8
  ·intro ρ L D hS
   rcases hS.sp with ⟨e3, e8, e9, e10, -, hρ, hL⟩ | ⟨e3, e8, e9, e10, -, A7a, cp7a, Lr7a, hp0, hρ, hL⟩ | ⟨e3, e8, e9, e10, -, bb7, hρ, hL⟩ | ⟨e3, e8, e9, e10, -, A7a, cp7a, Lr7a, bb7, hp0, hρ, hL⟩ | ⟨e3, e8, e9, e10, -, A7a, cp7a, Lr7a, bb7, A7b, cp7b, Lr7b, hp0, hp1, hρ, hL⟩ | ⟨e3, e8, e9, e10, -, A7a, cp7a, Lr7a, bb7, A7b, cp7b, Lr7b, hp0, hp1, hρ, hL⟩
   ·have u42 : ρ 42 = .int .i64 (((cl.faces.length : Nat)) : Int) := hS.dep ⟨6, Ground.data⟩ (by simp) rfl _ _ rfl rfl
    clear hS hρ
    obtain ⟨base, rfl⟩ := Has.base (ρ := ρ) (l := [(42, .int .i64 (((cl.faces.length : Nat)) : Int))]) ⟨u42, trivial⟩
    clear u42
    refine RL.perm rfl hL.symm ?_
    clear hL
    refine RL.conv rfl Try.underlying3 Try.underlying5 rfl ?_
    refine RL.nil ?_
    exact ⟨rfl, ⟨_, rfl, rfl⟩, .inl ⟨e3, e8, e9, e10, trivial, trivial, List.Perm.refl _⟩⟩
   ·have u39 : ρ 39 = .slice A7a (n6 + 16) cp7a := hρ.1
    have u42 : ρ 42 = .int .i64 (((cl.faces.length : Nat)) : Int) := hS.dep ⟨6, Ground.data⟩ (by simp) rfl _ _ rfl rfl
    clear hS hρ
    obtain ⟨base, rfl⟩ := Has.base (ρ := ρ) (l := [(39, .slice A7a (n6 + 16) cp7a), (42, .int .i64 (((cl.faces.length : Nat)) : Int))]) ⟨u39, u42, trivial⟩
    clear u39 u42
    refine RL.perm rfl hL.symm ?_
    clear hL
    refine RL.conv rfl Try.underlying3 Try.underlying5 rfl ?_
    refine RL.nil ?_
    exact ⟨rfl, ⟨_, rfl, rfl⟩, .inr (.inl ⟨e3, e8, e9, e10, trivial, A7a, cp7a, Lr7a, hp0, ⟨rfl, trivial⟩, List.Perm.refl _⟩)⟩
   ·exact hS.hi 8 rfl (by kernel_rfl) e8
   ·exact hS.hi 8 rfl (by kernel_rfl) e8
   ·exact hS.hi 8 rfl (by kernel_rfl) e8
   exact hS.hi 8 rfl (by kernel_rfl) e8
  ·intro ρ L D hS
   rcases hS.sp with ⟨e3, e8, e9, e10, -, hρ, hL⟩ | ⟨e3, e8, e9, e10, -, A7a, cp7a, Lr7a, hp0, hρ, hL⟩ | ⟨e3, e8, e9, e10, -, bb7, hρ, hL⟩ | ⟨e3, e8, e9, e10, -, A7a, cp7a, Lr7a, bb7, hp0, hρ, hL⟩ | ⟨e3, e8, e9, e10, -, A7a, cp7a, Lr7a, bb7, A7b, cp7b, Lr7b, hp0, hp1, hρ, hL⟩ | ⟨e3, e8, e9, e10, -, A7a, cp7a, Lr7a, bb7, A7b, cp7b, Lr7b, hp0, hp1, hρ, hL⟩
   ·have u43 : ρ 43 = .int .u8 (u8 cl.faces.length) := hS.dep ⟨7, Ground.data⟩ (by simp) rfl _ _ rfl rfl
    clear hS hρ
    obtain ⟨base, rfl⟩ := Has.base (ρ := ρ) (l := [(43, .int .u8 (u8 cl.faces.length))]) ⟨u43, trivial⟩
    clear u43
    refine RL.perm rfl hL.symm ?_
    clear hL
    refine RL.bs1U rfl rfl sl84 zt5 rfl ?_
    intro bb7 hbb7
    refine RL.nil ?_
    exact ⟨rfl, ⟨_, rfl, trivial⟩, .inr (.inr (.inl ⟨e3, rfl, e9, e10, trivial, bb7, ⟨rfl, trivial⟩, (pmm fun _ _ z => by simp only [pm1, pm2, pm3, pm4, pm5, pm6, List.cons_append, List.nil_append] <;> omega)⟩))⟩
   ·have u39 : ρ 39 = .slice A7a (n6 + 16) cp7a := hρ.1
    have u43 : ρ 43 = .int .u8 (u8 cl.faces.length) := hS.dep ⟨7, Ground.data⟩ (by simp) rfl _ _ rfl rfl
    clear hS hρ
    obtain ⟨base, rfl⟩ := Has.base (ρ := ρ) (l := [(39, .slice A7a (n6 + 16) cp7a), (43, .int .u8 (u8 cl.faces.length))]) ⟨u39, u43, trivial⟩
    clear u39 u43
    refine RL.perm rfl hL.symm ?_
    clear hL
    refine RL.bs1U rfl rfl sl84 zt5 rfl ?_
    intro bb7 hbb7
    refine RL.nil ?_
    exact ⟨rfl, ⟨_, rfl, trivial⟩, .inr (.inr (.inr (.inl ⟨e3, rfl, e9, e10, trivial, A7a, cp7a, Lr7a, bb7, hp0, ⟨rfl, rfl, trivial⟩, (pmm fun _ _ z => by simp only [pm1, pm2, pm3, pm4, pm5, pm6, List.cons_append, List.nil_append] <;> omega)⟩)))⟩
   ·exact hS.me e8
   ·exact hS.me e8
   ·exact hS.hi 9 rfl (by kernel_rfl) e9
   exact hS.hi 9 rfl (by kernel_rfl) e9
  ·intro ρ L D hS
   rcases hS.sp with ⟨e3, e8, e9, e10, -, hρ, hL⟩ | ⟨e3, e8, e9, e10, -, A7a, cp7a, Lr7a, hp0, hρ, hL⟩ | ⟨e3, e8, e9, e10, -, bb7, hρ, hL⟩ | ⟨e3, e8, e9, e10, -, A7a, cp7a, Lr7a, bb7, hp0, hρ, hL⟩ | ⟨e3, e8, e9, e10, -, A7a, cp7a, Lr7a, bb7, A7b, cp7b, Lr7b, hp0, hp1, hρ, hL⟩ | ⟨e3, e8, e9, e10, -, A7a, cp7a, Lr7a, bb7, A7b, cp7b, Lr7b, hp0, hp1, hρ, hL⟩
   ·exact hS.lo 3 (by kernel_rfl) e3
   ·exact hS.lo 8 (by kernel_rfl) e8
   ·exact hS.lo 3 (by kernel_rfl) e3
   ·have u39 : ρ 39 = .slice A7a (n6 + 16) cp7a := hρ.1
    have u44 : ρ 44 = .slice (some ⟨bb7, 0, none⟩) 1 1 := hρ.2.1
    clear hS hρ
    obtain ⟨base, rfl⟩ := Has.base (ρ := ρ) (l := [(39, .slice A7a (n6 + 16) cp7a), (44, .slice (some ⟨bb7, 0, none⟩) 1 1)]) ⟨u39, u44, trivial⟩
    clear u39 u44
    refine RL.perm rfl hL.symm ?_
    clear hL
    refine RL.appB (Lr := Lr7a) (xs := gcells ((u8 m.length :: ((m.take g).map encC).flatten) ++ cl.id)) (ys := gcells [u8 cl.faces.length]) (N := n6 + 16 + 1) rfl rfl sl84 el_u8 (by decide) (by decide) Try.underlying84 rfl hp0 rfl (List.Perm.refl _) (by simp) rfl (gcells_one _) (by omega) rfl ?_
    intro A7b cp7b Lr7b hr7b
    rw [← gcells_app] at hr7b
    refine RL.nil ?_
    exact ⟨rfl, ⟨_, rfl, trivial⟩, .inr (.inr (.inr (.inr (.inl ⟨e3, e8, rfl, e10, trivial, A7a, cp7a, Lr7a, bb7, A7b, cp7b, Lr7b, hp0, hr7b, ⟨rfl, rfl, rfl, trivial⟩, (pmm fun _ _ z => by simp only [pm1, pm2, pm3, pm4, pm5, pm6, List.cons_append, List.nil_append] <;> omega)⟩))))⟩
   ·exact hS.me e9
   exact hS.hi 10 rfl (by kernel_rfl) e10
  ·intro ρ L D hS
   rcases hS.sp with ⟨e3, e8, e9, e10, -, hρ, hL⟩ | ⟨e3, e8, e9, e10, -, A7a, cp7a, Lr7a, hp0, hρ, hL⟩ | ⟨e3, e8, e9, e10, -, bb7, hρ, hL⟩ | ⟨e3, e8, e9, e10, -, A7a, cp7a, Lr7a, bb7, hp0, hρ, hL⟩ | ⟨e3, e8, e9, e10, -, A7a, cp7a, Lr7a, bb7, A7b, cp7b, Lr7b, hp0, hp1, hρ, hL⟩ | ⟨e3, e8, e9, e10, -, A7a, cp7a, Lr7a, bb7, A7b, cp7b, Lr7b, hp0, hp1, hρ, hL⟩
   ·exact hS.lo 3 (by kernel_rfl) e3
   ·exact hS.lo 8 (by kernel_rfl) e8
   ·exact hS.lo 3 (by kernel_rfl) e3
   ·exact hS.lo 9 (by kernel_rfl) e9
   ·have u39 : ρ 39 = .slice A7a (n6 + 16) cp7a := hρ.1
    have u44 : ρ 44 = .slice (some ⟨bb7, 0, none⟩) 1 1 := hρ.2.1
    have u45 : ρ 45 = .slice A7b (n6 + 16 + 1) cp7b := hρ.2.2.1
    clear hS hρ
    obtain ⟨base, rfl⟩ := Has.base (ρ := ρ) (l := [(39, .slice A7a (n6 + 16) cp7a), (44, .slice (some ⟨bb7, 0, none⟩) 1 1), (45, .slice A7b (n6 + 16 + 1) cp7b)]) ⟨u39, u44, u45, trivial⟩
    clear u39 u44 u45
    refine RL.perm rfl hL.symm ?_
    clear hL
    refine RL.assign rfl ?_
    refine RL.nil ?_
    exact ⟨rfl, ⟨_, rfl, trivial⟩, .inr (.inr (.inr (.inr (.inr (⟨e3, e8, e9, rfl, trivial, A7a, cp7a, Lr7a, bb7, A7b, cp7b, Lr7b, hp0, hp1, ⟨rfl, rfl, rfl, rfl, trivial⟩, (pmm fun _ _ z => by simp only [pm1, pm2, pm3, pm4, pm5, pm6, List.cons_append, List.nil_append] <;> omega)⟩)))))⟩
   exact hS.me e10
  intro ρ L D hD hT hfix hsp
  rcases hsp with ⟨e3, e8, e9, e10, -, hρ, hL⟩ | ⟨e3, e8, e9, e10, -, A7a, cp7a, Lr7a, hp0, hρ, hL⟩ | ⟨e3, e8, e9, e10, -, bb7, hρ, hL⟩ | ⟨e3, e8, e9, e10, -, A7a, cp7a, Lr7a, bb7, hp0, hρ, hL⟩ | ⟨e3, e8, e9, e10, -, A7a, cp7a, Lr7a, bb7, A7b, cp7b, Lr7b, hp0, hp1, hρ, hL⟩ | ⟨e3, e8, e9, e10, -, A7a, cp7a, Lr7a, bb7, A7b, cp7b, Lr7b, hp0, hp1, hρ, hL⟩
  ·exact done_no hD 3 rfl e3
  ·exact done_no hD 8 rfl e8
  ·exact done_no hD 3 rfl e3
  ·exact done_no hD 9 rfl e9
  ·exact done_no hD 10 rfl e10
  have u1 : ρ 1 = .pointer (some ⟨b1, 0, none⟩) := hfix 1 (by decide)
  have u6 : ρ 6 = .slice A7b (n6 + 16 + 1) cp7b := hρ.1
  have u8 : ρ 8 = .pointer (some ⟨b8, 0, none⟩) := hfix 8 (by decide)
  have u30 : ρ 30 = .slice A m.length n := hfix 30 (by decide)
  have u31 : ρ 31 = .int .i64 m.length := hfix 31 (by decide)
  have u32 : ρ 32 = .int .i64 g := hfix 32 (by decide)
  have u39 : ρ 39 = .slice A7a (n6 + 16) cp7a := hρ.2.1
  have u44 : ρ 44 = .slice (some ⟨bb7, 0, none⟩) 1 1 := hρ.2.2.1
  have u45 : ρ 45 = .slice A7b (n6 + 16 + 1) cp7b := hρ.2.2.2.1
  clear hT hfix hD hρ
  obtain ⟨base, rfl⟩ := Has.base (ρ := ρ) (l := [(1, .pointer (some ⟨b1, 0, none⟩)), (6, .slice A7b (n6 + 16 + 1) cp7b), (8, .pointer (some ⟨b8, 0, none⟩)), (30, .slice A m.length n), (31, .int .i64 m.length), (32, .int .i64 g), (39, .slice A7a (n6 + 16) cp7a), (44, .slice (some ⟨bb7, 0, none⟩) 1 1), (45, .slice A7b (n6 + 16 + 1) cp7b)]) ⟨u1, u6, u8, u30, u31, u32, u39, u44, u45, trivial⟩
  clear u1 u6 u8 u30 u31 u32 u39 u44 u45
  refine ⟨_, hL.symm, ((Lr7b) ++ (([(b8, cel 69 (clCells cl.id (.slice Af cl.faces.length cf) cl.slots (.slice Am cl.methods.length cm)))]) ++ ([(b1, cel 30 [.slice A m.length n])]))), List.Sublist.append (List.Sublist.refl _) (List.Sublist.append (List.Sublist.refl _) (List.sublist_append_left _ _)), ?_⟩
  have hr7 := hp1
  clear hp0 hp1
  refine X.seq ?_
  refine X.seq ?_
  refine X.region rfl ?_
  refine RL.fieldAddr rfl fd69_1 rfl ?_
  refine RL.loadO rfl sc66 rfl (clCells_f hid) ?_
  refine RL.len rfl sl66 rfl ?_
  refine RL.move rfl ?_
  refine RL.nil ?_
  refine X.block ?_
  refine X.loop (γ := Nat) (fun k ρ L => ∃ A9 : Option Addr, ∃ n9 : Nat, ∃ cp9 : Nat, ∃ Lr9 : List Ent, (k ≤ cl.faces.length) ∧ (Row 5 1 (.slice A9 (n9) cp9) (gcells ((((u8 m.length :: ((m.take g).map encC).flatten) ++ cl.id) ++ [u8 cl.faces.length]) ++ ((cl.faces.take k).map encF).flatten)) Lr9) ∧ (n9 ≤ n6 + 17 + 17 * k) ∧ Has ρ [(1, .pointer (some ⟨b1, 0, none⟩)), (6, .slice A9 n9 cp9), (8, .pointer (some ⟨b8, 0, none⟩)), (30, .slice A m.length n), (31, .int .i64 m.length), (32, .int .i64 g), (47, .slice Af cl.faces.length cf), (48, .int .i64 cl.faces.length), (49, .int .i64 k)] ∧ L = Lr9 ++ [(b8, cel 69 (clCells cl.id (.slice Af cl.faces.length cf) cl.slots (.slice Am cl.methods.length cm))), (b1, cel 30 [.slice A m.length n])]) (fun k => cl.faces.length - k) (0) ⟨_, (by repeat (first | exact sb0 _ | exact sb1 _ | (rw [List.append_nil]; exact sb0 _) | exact sb2 _ _ | exact sb3 _ _ _ | apply sb4 | apply sb5 | apply sb6)), A7b, n6 + 16 + 1, cp7b, Lr7b, Nat.zero_le _, (by rw [show ((cl.faces.take 0).map encF).flatten = [] from rfl, List.append_nil]; exact hr7), by omega, ⟨rfl, rfl, rfl, rfl, rfl, rfl, rfl, rfl, rfl, trivial⟩, rfl⟩ ?_
  rintro k _ _ ⟨A9, n9, cp9, Lr9, hk0, hr9, hn9, hρ, rfl⟩
  obtain ⟨base, rfl⟩ := hρ.base
  clear hρ
  refine X.seq ?_
  refine X.region rfl ?_
  refine RL.cmp_s rfl rfl rfl rfl (fun hk => ?_) (fun hk => ?_)
  ·replace hk : (_ : Int) < _ := hk
   obtain ⟨f, hf⟩ : ∃ f, cl.faces[k]? = some f := ⟨_, List.getElem?_eq_getElem (by omega)⟩
   have hfk := hfo f (List.mem_of_getElem? hf)
   have hbs := hcv.base f (List.mem_of_getElem? hf)
   refine RL.nil ?_
   refine X.seq ?_
   refine X.cond_t rfl ?_
   refine X.skip ?_
   refine X.seq ?_
   refine X.block ?_
   refine X.seq ?_
   refine X.region rfl ?_
   refine RL.indexAddr rfl sl66 rfl rfl (hAf (by omega)) rfl (by omega) ?_
   refine RL.loadIA rfl ag93 rfl (face_at hcf hfo hf) (by simp) (Face.len hfk) ?_
   refine RL.alloc rfl rfl zt93 ?_
   intro b10 hb10
   dsimp only at hb10
   refine RL.stA rfl rfl ag93.size rfl rfl (Face.len hfk) rfl (face_one f) ?_
   refine RL.nil ?_
   refine X.set [.val (.slice A9 n9 cp9), .val (.pointer (some ⟨b10, 0 + 0, none⟩)), .val (.slice (some ⟨b10, 0 + 0, none⟩) 16 16), .any, .val (.pointer (some ⟨b10, 0 + 16, none⟩)), .val (.int .i64 f.base), .val (.int .i64 ((f.base) + (1))), .val (.int .u8 (u8 (f.base + 1))), .any, .any, .any] [[], [], [1], [0, 1, 2], [], [4], [4, 5], [4, 5, 6], [4, 5, 6, 7], [0, 1, 2, 3, 4, 5, 6, 7, 8], [0, 1, 2, 3, 4, 5, 6, 7, 8, 9]] (fun D ρ L => (D 3 = false ∧ D 8 = false ∧ D 9 = false ∧ D 10 = false ∧ True ∧ Has ρ [] ∧ L.Perm ((Lr9) ++ (([(b10, cel 93 f.cells)]) ++ (([(b8, cel 69 (clCells cl.id (.slice Af cl.faces.length cf) cl.slots (.slice Am cl.methods.length cm)))]) ++ ([(b1, cel 30 [.slice A m.length n])]))))) ∨ (D 3 = true ∧ D 8 = false ∧ D 9 = false ∧ D 10 = false ∧ True ∧ ∃ A10a : Option Addr, ∃ cp10a : Nat, ∃ Lr10a : List Ent, (Row 5 1 (.slice A10a (n9 + 16) cp10a) (gcells (((((u8 m.length :: ((m.take g).map encC).flatten) ++ cl.id) ++ [u8 cl.faces.length]) ++ ((cl.faces.take k).map encF).flatten) ++ f.id)) Lr10a) ∧ Has ρ [(56, .slice A10a (n9 + 16) cp10a)] ∧ L.Perm ((Lr10a) ++ (([(b10, cel 93 f.cells)]) ++ (([(b8, cel 69 (clCells cl.id (.slice Af cl.faces.length cf) cl.slots (.slice Am cl.methods.length cm)))]) ++ ([(b1, cel 30 [.slice A m.length n])]))))) ∨ (D 3 = false ∧ D 8 = true ∧ D 9 = false ∧ D 10 = false ∧ True ∧ ∃ bb10 : Nat, Has ρ [(61, .slice (some ⟨bb10, 0, none⟩) 1 1)] ∧ L.Perm ((Lr9) ++ (([(b10, cel 93 f.cells)]) ++ (([(b8, cel 69 (clCells cl.id (.slice Af cl.faces.length cf) cl.slots (.slice Am cl.methods.length cm)))]) ++ (([(b1, cel 30 [.slice A m.length n])]) ++ ([(bb10, cel 5 (gcells [u8 (f.base + 1)]))])))))) ∨ (D 3 = true ∧ D 8 = true ∧ D 9 = false ∧ D 10 = false ∧ True ∧ ∃ A10a : Option Addr, ∃ cp10a : Nat, ∃ Lr10a : List Ent, ∃ bb10 : Nat, (Row 5 1 (.slice A10a (n9 + 16) cp10a) (gcells (((((u8 m.length :: ((m.take g).map encC).flatten) ++ cl.id) ++ [u8 cl.faces.length]) ++ ((cl.faces.take k).map encF).flatten) ++ f.id)) Lr10a) ∧ Has ρ [(56, .slice A10a (n9 + 16) cp10a), (61, .slice (some ⟨bb10, 0, none⟩) 1 1)] ∧ L.Perm ((Lr10a) ++ (([(b10, cel 93 f.cells)]) ++ (([(b8, cel 69 (clCells cl.id (.slice Af cl.faces.length cf) cl.slots (.slice Am cl.methods.length cm)))]) ++ (([(b1, cel 30 [.slice A m.length n])]) ++ ([(bb10, cel 5 (gcells [u8 (f.base + 1)]))])))))) ∨ (D 3 = true ∧ D 8 = true ∧ D 9 = true ∧ D 10 = false ∧ True ∧ ∃ A10a : Option Addr, ∃ cp10a : Nat, ∃ Lr10a : List Ent, ∃ bb10 : Nat, ∃ A10b : Option Addr, ∃ cp10b : Nat, ∃ Lr10b : List Ent, (Row 5 1 (.slice A10a (n9 + 16) cp10a) (gcells (((((u8 m.length :: ((m.take g).map encC).flatten) ++ cl.id) ++ [u8 cl.faces.length]) ++ ((cl.faces.take k).map encF).flatten) ++ f.id)) Lr10a) ∧ (Row 5 1 (.slice A10b (n9 + 16 + 1) cp10b) (gcells ((((((u8 m.length :: ((m.take g).map encC).flatten) ++ cl.id) ++ [u8 cl.faces.length]) ++ ((cl.faces.take k).map encF).flatten) ++ f.id) ++ [u8 (f.base + 1)])) Lr10b) ∧ Has ρ [(56, .slice A10a (n9 + 16) cp10a), (61, .slice (some ⟨bb10, 0, none⟩) 1 1), (62, .slice A10b (n9 + 16 + 1) cp10b)] ∧ L.Perm ((Lr10b) ++ (([(b10, cel 93 f.cells)]) ++ (([(b8, cel 69 (clCells cl.id (.slice Af cl.faces.length cf) cl.slots (.slice Am cl.methods.length cm)))]) ++ (([(b1, cel 30 [.slice A m.length n])]) ++ ([(bb10, cel 5 (gcells [u8 (f.base + 1)]))])))))) ∨ (D 3 = true ∧ D 8 = true ∧ D 9 = true ∧ D 10 = true ∧ True ∧ ∃ A10a : Option Addr, ∃ cp10a : Nat, ∃ Lr10a : List Ent, ∃ bb10 : Nat, ∃ A10b : Option Addr, ∃ cp10b : Nat, ∃ Lr10b : List Ent, (Row 5 1 (.slice A10a (n9 + 16) cp10a) (gcells (((((u8 m.length :: ((m.take g).map encC).flatten) ++ cl.id) ++ [u8 cl.faces.length]) ++ ((cl.faces.take k).map encF).flatten) ++ f.id)) Lr10a) ∧ (Row 5 1 (.slice A10b (n9 + 16 + 1) cp10b) (gcells ((((((u8 m.length :: ((m.take g).map encC).flatten) ++ cl.id) ++ [u8 cl.faces.length]) ++ ((cl.faces.take k).map encF).flatten) ++ f.id) ++ [u8 (f.base + 1)])) Lr10b) ∧ Has ρ [(6, .slice A10b (n9 + 16 + 1) cp10b), (56, .slice A10a (n9 + 16) cp10a), (61, .slice (some ⟨bb10, 0, none⟩) 1 1), (62, .slice A10b (n9 + 16 + 1) cp10b)] ∧ L.Perm ((Lr10b) ++ (([(b10, cel 93 f.cells)]) ++ (([(b8, cel 69 (clCells cl.id (.slice Af cl.faces.length cf) cl.slots (.slice Am cl.methods.length cm)))]) ++ (([(b1, cel 30 [.slice A m.length n])]) ++ ([(bb10, cel 5 (gcells [u8 (f.base + 1)]))]))))))) rfl (by kernel_rfl) (by kernel_rfl) (by kernel_rfl) (by kernel_rfl) (fun D hD => .inl ⟨hD 3, hD 8, hD 9, hD 10, trivial, trivial, (pmm fun _ _ z => by simp only [pm1, pm2, pm3, pm4, pm5, pm6, List.cons_append, List.nil_append] <;> omega)⟩) ⟨?_, ?_, ?_, ?_, ?_, ?_, ?_, ?_, ?_, ?_, ?_, trivial⟩ ?_
   ·intro ρ L D hS
    rcases hS.sp with ⟨e3, e8, e9, e10, -, hρ, hL⟩ | ⟨e3, e8, e9, e10, -, A10a, cp10a, Lr10a, hp0, hρ, hL⟩ | ⟨e3, e8, e9, e10, -, bb10, hρ, hL⟩ | ⟨e3, e8, e9, e10, -, A10a, cp10a, Lr10a, bb10, hp0, hρ, hL⟩ | ⟨e3, e8, e9, e10, -, A10a, cp10a, Lr10a, bb10, A10b, cp10b, Lr10b, hp0, hp1, hρ, hL⟩ | ⟨e3, e8, e9, e10, -, A10a, cp10a, Lr10a, bb10, A10b, cp10b, Lr10b, hp0, hp1, hρ, hL⟩
    ·have u6 : ρ 6 = .slice A9 n9 cp9 := hS.old 10 _ 6 rfl rfl ⟨⟨0, Ground.phase⟩, by simp, rfl, rfl⟩
     clear hS hρ
     obtain ⟨base, rfl⟩ := Has.base (ρ := ρ) (l := [(6, .slice A9 n9 cp9)]) ⟨u6, trivial⟩
     clear u6
     refine RL.perm rfl hL.symm ?_
     clear hL
     refine RL.move rfl ?_
     refine RL.nil ?_
     exact ⟨rfl, ⟨_, rfl, rfl⟩, .inl ⟨e3, e8, e9, e10, trivial, trivial, List.Perm.refl _⟩⟩
    ·exact hS.hi 3 rfl (by kernel_rfl) e3
    ·have u6 : ρ 6 = .slice A9 n9 cp9 := hS.old 10 _ 6 rfl rfl ⟨⟨0, Ground.phase⟩, by simp, rfl, rfl⟩
     have u61 : ρ 61 = .slice (some ⟨bb10, 0, none⟩) 1 1 := hρ.1
     clear hS hρ
     obtain ⟨base, rfl⟩ := Has.base (ρ := ρ) (l := [(6, .slice A9 n9 cp9), (61, .slice (some ⟨bb10, 0, none⟩) 1 1)]) ⟨u6, u61, trivial⟩
     clear u6 u61
     refine RL.perm rfl hL.symm ?_
     clear hL
     refine RL.move rfl ?_
     refine RL.nil ?_
     exact ⟨rfl, ⟨_, rfl, rfl⟩, .inr (.inr (.inl ⟨e3, e8, e9, e10, trivial, bb10, ⟨rfl, trivial⟩, List.Perm.refl _⟩))⟩
    ·exact hS.hi 3 rfl (by kernel_rfl) e3
    ·exact hS.hi 3 rfl (by kernel_rfl) e3
    exact hS.hi 3 rfl (by kernel_rfl) e3
   ·intro ρ L D hS
    rcases hS.sp with ⟨e3, e8, e9, e10, -, hρ, hL⟩ | ⟨e3, e8, e9, e10, -, A10a, cp10a, Lr10a, hp0, hρ, hL⟩ | ⟨e3, e8, e9, e10, -, bb10, hρ, hL⟩ | ⟨e3, e8, e9, e10, -, A10a, cp10a, Lr10a, bb10, hp0, hρ, hL⟩ | ⟨e3, e8, e9, e10, -, A10a, cp10a, Lr10a, bb10, A10b, cp10b, Lr10b, hp0, hp1, hρ, hL⟩ | ⟨e3, e8, e9, e10, -, A10a, cp10a, Lr10a, bb10, A10b, cp10b, Lr10b, hp0, hp1, hρ, hL⟩
    ·have u10 : ρ 10 = .pointer (some ⟨b10, 0, none⟩) := hS.fix 10 (by decide)
     clear hS hρ
     obtain ⟨base, rfl⟩ := Has.base (ρ := ρ) (l := [(10, .pointer (some ⟨b10, 0, none⟩))]) ⟨u10, trivial⟩
     clear u10
     refine RL.perm rfl hL.symm ?_
     clear hL
     refine RL.fieldAddr rfl fd93_0 rfl ?_
     refine RL.nil ?_
     exact ⟨rfl, ⟨_, rfl, rfl⟩, .inl ⟨e3, e8, e9, e10, trivial, trivial, List.Perm.refl _⟩⟩
    ·exact hS.hi 3 rfl (by kernel_rfl) e3
    ·have u10 : ρ 10 = .pointer (some ⟨b10, 0, none⟩) := hS.fix 10 (by decide)
     have u61 : ρ 61 = .slice (some ⟨bb10, 0, none⟩) 1 1 := hρ.1
     clear hS hρ
     obtain ⟨base, rfl⟩ := Has.base (ρ := ρ) (l := [(10, .pointer (some ⟨b10, 0, none⟩)), (61, .slice (some ⟨bb10, 0, none⟩) 1 1)]) ⟨u10, u61, trivial⟩
     clear u10 u61
     refine RL.perm rfl hL.symm ?_
     clear hL
     refine RL.fieldAddr rfl fd93_0 rfl ?_
     refine RL.nil ?_
     exact ⟨rfl, ⟨_, rfl, rfl⟩, .inr (.inr (.inl ⟨e3, e8, e9, e10, trivial, bb10, ⟨rfl, trivial⟩, List.Perm.refl _⟩))⟩
    ·exact hS.hi 3 rfl (by kernel_rfl) e3
    ·exact hS.hi 3 rfl (by kernel_rfl) e3
    exact hS.hi 3 rfl (by kernel_rfl) e3
   ·intro ρ L D hS
    rcases hS.sp with ⟨e3, e8, e9, e10, -, hρ, hL⟩ | ⟨e3, e8, e9, e10, -, A10a, cp10a, Lr10a, hp0, hρ, hL⟩ | ⟨e3, e8, e9, e10, -, bb10, hρ, hL⟩ | ⟨e3, e8, e9, e10, -, A10a, cp10a, Lr10a, bb10, hp0, hρ, hL⟩ | ⟨e3, e8, e9, e10, -, A10a, cp10a, Lr10a, bb10, A10b, cp10b, Lr10b, hp0, hp1, hρ, hL⟩ | ⟨e3, e8, e9, e10, -, A10a, cp10a, Lr10a, bb10, A10b, cp10b, Lr10b, hp0, hp1, hρ, hL⟩
    ·have u54 : ρ 54 = .pointer (some ⟨b10, 0 + 0, none⟩) := hS.dep ⟨1, Ground.data⟩ (by simp) rfl _ _ rfl rfl
     clear hS hρ
     obtain ⟨base, rfl⟩ := Has.base (ρ := ρ) (l := [(54, .pointer (some ⟨b10, 0 + 0, none⟩))]) ⟨u54, trivial⟩
     clear u54
     refine RL.perm rfl hL.symm ?_
     clear hL
     refine RL.sliceArr rfl Try.underlying47 sc5.size rfl ?_
     refine RL.nil ?_
     exact ⟨rfl, ⟨_, rfl, rfl⟩, .inl ⟨e3, e8, e9, e10, trivial, trivial, List.Perm.refl _⟩⟩
    ·exact hS.hi 3 rfl (by kernel_rfl) e3
    ·have u54 : ρ 54 = .pointer (some ⟨b10, 0 + 0, none⟩) := hS.dep ⟨1, Ground.data⟩ (by simp) rfl _ _ rfl rfl
     have u61 : ρ 61 = .slice (some ⟨bb10, 0, none⟩) 1 1 := hρ.1
     clear hS hρ
     obtain ⟨base, rfl⟩ := Has.base (ρ := ρ) (l := [(54, .pointer (some ⟨b10, 0 + 0, none⟩)), (61, .slice (some ⟨bb10, 0, none⟩) 1 1)]) ⟨u54, u61, trivial⟩
     clear u54 u61
     refine RL.perm rfl hL.symm ?_
     clear hL
     refine RL.sliceArr rfl Try.underlying47 sc5.size rfl ?_
     refine RL.nil ?_
     exact ⟨rfl, ⟨_, rfl, rfl⟩, .inr (.inr (.inl ⟨e3, e8, e9, e10, trivial, bb10, ⟨rfl, trivial⟩, List.Perm.refl _⟩))⟩
    ·exact hS.hi 3 rfl (by kernel_rfl) e3
    ·exact hS.hi 3 rfl (by kernel_rfl) e3
    exact hS.hi 3 rfl (by kernel_rfl) e3
   ·intro ρ L D hS
    rcases hS.sp with ⟨e3, e8, e9, e10, -, hρ, hL⟩ | ⟨e3, e8, e9, e10, -, A10a, cp10a, Lr10a, hp0, hρ, hL⟩ | ⟨e3, e8, e9, e10, -, bb10, hρ, hL⟩ | ⟨e3, e8, e9, e10, -, A10a, cp10a, Lr10a, bb10, hp0, hρ, hL⟩ | ⟨e3, e8, e9, e10, -, A10a, cp10a, Lr10a, bb10, A10b, cp10b, Lr10b, hp0, hp1, hρ, hL⟩ | ⟨e3, e8, e9, e10, -, A10a, cp10a, Lr10a, bb10, A10b, cp10b, Lr10b, hp0, hp1, hρ, hL⟩
    ·have u53 : ρ 53 = .slice A9 n9 cp9 := hS.dep ⟨0, Ground.data⟩ (by simp) rfl _ _ rfl rfl
     have u55 : ρ 55 = .slice (some ⟨b10, 0 + 0, none⟩) 16 16 := hS.dep ⟨2, Ground.data⟩ (by simp) rfl _ _ rfl rfl
     clear hS hρ
     obtain ⟨base, rfl⟩ := Has.base (ρ := ρ) (l := [(53, .slice A9 n9 cp9), (55, .slice (some ⟨b10, 0 + 0, none⟩) 16 16)]) ⟨u53, u55, trivial⟩
     clear u53 u55
     refine RL.perm rfl hL.symm ?_
     clear hL
     refine RL.appG (Lr := Lr9) (xs := gcells ((((u8 m.length :: ((m.take g).map encC).flatten) ++ cl.id) ++ [u8 cl.faces.length]) ++ ((cl.faces.take k).map encF).flatten)) (ys := gcells f.id) (N := n9 + 16) rfl rfl sl84 el_u8 (by decide) (by decide) Try.underlying84 (List.Perm.refl _) rfl hr9 rfl (by rw [gcells_len, show f.id.length = 16 from hfk]) (gcells_one _) (fun w2 hw2 => .inr ⟨_, _, rfl, own_fid hfk hw2 (show (b10, cel 93 f.cells) ∈ _ by simp)⟩) (by omega) rfl ?_
     intro A10a cp10a Lr10a hr10a
     rw [← gcells_app] at hr10a
     refine RL.nil ?_
     exact ⟨rfl, ⟨_, rfl, trivial⟩, .inr (.inl ⟨rfl, e8, e9, e10, trivial, A10a, cp10a, Lr10a, hr10a, ⟨rfl, trivial⟩, (pmm fun _ _ z => by simp only [pm1, pm2, pm3, pm4, pm5, pm6, List.cons_append, List.nil_append] <;> omega)⟩)⟩
    ·exact hS.me e3
    ·have u53 : ρ 53 = .slice A9 n9 cp9 := hS.dep ⟨0, Ground.data⟩ (by simp) rfl _ _ rfl rfl
     have u55 : ρ 55 = .slice (some ⟨b10, 0 + 0, none⟩) 16 16 := hS.dep ⟨2, Ground.data⟩ (by simp) rfl _ _ rfl rfl
     have u61 : ρ 61 = .slice (some ⟨bb10, 0, none⟩) 1 1 := hρ.1
     clear hS hρ
     obtain ⟨base, rfl⟩ := Has.base (ρ := ρ) (l := [(53, .slice A9 n9 cp9), (55, .slice (some ⟨b10, 0 + 0, none⟩) 16 16), (61, .slice (some ⟨bb10, 0, none⟩) 1 1)]) ⟨u53, u55, u61, trivial⟩
     clear u53 u55 u61
     refine RL.perm rfl hL.symm ?_
     clear hL
     refine RL.appG (Lr := Lr9) (xs := gcells ((((u8 m.length :: ((m.take g).map encC).flatten) ++ cl.id) ++ [u8 cl.faces.length]) ++ ((cl.faces.take k).map encF).flatten)) (ys := gcells f.id) (N := n9 + 16) rfl rfl sl84 el_u8 (by decide) (by decide) Try.underlying84 (List.Perm.refl _) rfl hr9 rfl (by rw [gcells_len, show f.id.length = 16 from hfk]) (gcells_one _) (fun w2 hw2 => .inr ⟨_, _, rfl, own_fid hfk hw2 (show (b10, cel 93 f.cells) ∈ _ by simp)⟩) (by omega) rfl ?_
     intro A10a cp10a Lr10a hr10a
     rw [← gcells_app] at hr10a
     refine RL.nil ?_
     exact ⟨rfl, ⟨_, rfl, trivial⟩, .inr (.inr (.inr (.inl ⟨rfl, e8, e9, e10, trivial, A10a, cp10a, Lr10a, bb10, hr10a, ⟨rfl, rfl, trivial⟩, (pmm fun _ _ z => by simp only [pm1, pm2, pm3, pm4, pm5, pm6, List.cons_append, List.nil_append] <;> omega)⟩)))⟩
    ·exact hS.me e3
    ·exact hS.hi 9 rfl (by kernel_rfl) e9
    exact hS.hi 9 rfl (by kernel_rfl) e9
   ·intro ρ L D hS
    rcases hS.sp with ⟨e3, e8, e9, e10, -, hρ, hL⟩ | ⟨e3, e8, e9, e10, -, A10a, cp10a, Lr10a, hp0, hρ, hL⟩ | ⟨e3, e8, e9, e10, -, bb10, hρ, hL⟩ | ⟨e3, e8, e9, e10, -, A10a, cp10a, Lr10a, bb10, hp0, hρ, hL⟩ | ⟨e3, e8, e9, e10, -, A10a, cp10a, Lr10a, bb10, A10b, cp10b, Lr10b, hp0, hp1, hρ, hL⟩ | ⟨e3, e8, e9, e10, -, A10a, cp10a, Lr10a, bb10, A10b, cp10b, Lr10b, hp0, hp1, hρ, hL⟩
    ·have u10 : ρ 10 = .pointer (some ⟨b10, 0, none⟩) := hS.fix 10 (by decide)
     clear hS hρ
     obtain ⟨base, rfl⟩ := Has.base (ρ := ρ) (l := [(10, .pointer (some ⟨b10, 0, none⟩))]) ⟨u10, trivial⟩
     clear u10
     refine RL.perm rfl hL.symm ?_
     clear hL
     refine RL.fieldAddr rfl fd93_1 rfl ?_
     refine RL.nil ?_
     exact ⟨rfl, ⟨_, rfl, rfl⟩, .inl ⟨e3, e8, e9, e10, trivial, trivial, List.Perm.refl _⟩⟩
    ·have u10 : ρ 10 = .pointer (some ⟨b10, 0, none⟩) := hS.fix 10 (by decide)
     have u56 : ρ 56 = .slice A10a (n9 + 16) cp10a := hρ.1
     clear hS hρ
     obtain ⟨base, rfl⟩ := Has.base (ρ := ρ) (l := [(10, .pointer (some ⟨b10, 0, none⟩)), (56, .slice A10a (n9 + 16) cp10a)]) ⟨u10, u56, trivial⟩
     clear u10 u56
     refine RL.perm rfl hL.symm ?_
     clear hL
     refine RL.fieldAddr rfl fd93_1 rfl ?_
     refine RL.nil ?_
     exact ⟨rfl, ⟨_, rfl, rfl⟩, .inr (.inl ⟨e3, e8, e9, e10, trivial, A10a, cp10a, Lr10a, hp0, ⟨rfl, trivial⟩, List.Perm.refl _⟩)⟩
    ·exact hS.hi 8 rfl (by kernel_rfl) e8
    ·exact hS.hi 8 rfl (by kernel_rfl) e8
    ·exact hS.hi 8 rfl (by kernel_rfl) e8
    exact hS.hi 8 rfl (by kernel_rfl) e8
   ·intro ρ L D hS
    rcases hS.sp with ⟨e3, e8, e9, e10, -, hρ, hL⟩ | ⟨e3, e8, e9, e10, -, A10a, cp10a, Lr10a, hp0, hρ, hL⟩ | ⟨e3, e8, e9, e10, -, bb10, hρ, hL⟩ | ⟨e3, e8, e9, e10, -, A10a, cp10a, Lr10a, bb10, hp0, hρ, hL⟩ | ⟨e3, e8, e9, e10, -, A10a, cp10a, Lr10a, bb10, A10b, cp10b, Lr10b, hp0, hp1, hρ, hL⟩ | ⟨e3, e8, e9, e10, -, A10a, cp10a, Lr10a, bb10, A10b, cp10b, Lr10b, hp0, hp1, hρ, hL⟩
    ·have u57 : ρ 57 = .pointer (some ⟨b10, 0 + 16, none⟩) := hS.dep ⟨4, Ground.data⟩ (by simp) rfl _ _ rfl rfl
     clear hS hρ
     obtain ⟨base, rfl⟩ := Has.base (ρ := ρ) (l := [(57, .pointer (some ⟨b10, 0 + 16, none⟩))]) ⟨u57, trivial⟩
     clear u57
     refine RL.perm rfl hL.symm ?_
     clear hL
     refine RL.loadO rfl sc3 rfl (Face.basecell hfk) ?_
     refine RL.nil ?_
     exact ⟨rfl, ⟨_, rfl, rfl⟩, .inl ⟨e3, e8, e9, e10, trivial, trivial, List.Perm.refl _⟩⟩
    ·have u56 : ρ 56 = .slice A10a (n9 + 16) cp10a := hρ.1
     have u57 : ρ 57 = .pointer (some ⟨b10, 0 + 16, none⟩) := hS.dep ⟨4, Ground.data⟩ (by simp) rfl _ _ rfl rfl
     clear hS hρ
     obtain ⟨base, rfl⟩ := Has.base (ρ := ρ) (l := [(56, .slice A10a (n9 + 16) cp10a), (57, .pointer (some ⟨b10, 0 + 16, none⟩))]) ⟨u56, u57, trivial⟩
     clear u56 u57
     refine RL.perm rfl hL.symm ?_
     clear hL
     refine RL.loadO rfl sc3 rfl (Face.basecell hfk) ?_
     refine RL.nil ?_
     exact ⟨rfl, ⟨_, rfl, rfl⟩, .inr (.inl ⟨e3, e8, e9, e10, trivial, A10a, cp10a, Lr10a, hp0, ⟨rfl, trivial⟩, List.Perm.refl _⟩)⟩
    ·exact hS.hi 8 rfl (by kernel_rfl) e8
    ·exact hS.hi 8 rfl (by kernel_rfl) e8
    ·exact hS.hi 8 rfl (by kernel_rfl) e8
    exact hS.hi 8 rfl (by kernel_rfl) e8
   ·intro ρ L D hS
    rcases hS.sp with ⟨e3, e8, e9, e10, -, hρ, hL⟩ | ⟨e3, e8, e9, e10, -, A10a, cp10a, Lr10a, hp0, hρ, hL⟩ | ⟨e3, e8, e9, e10, -, bb10, hρ, hL⟩ | ⟨e3, e8, e9, e10, -, A10a, cp10a, Lr10a, bb10, hp0, hρ, hL⟩ | ⟨e3, e8, e9, e10, -, A10a, cp10a, Lr10a, bb10, A10b, cp10b, Lr10b, hp0, hp1, hρ, hL⟩ | ⟨e3, e8, e9, e10, -, A10a, cp10a, Lr10a, bb10, A10b, cp10b, Lr10b, hp0, hp1, hρ, hL⟩
    ·have u58 : ρ 58 = .int .i64 f.base := hS.dep ⟨5, Ground.data⟩ (by simp) rfl _ _ rfl rfl
     clear hS hρ
     obtain ⟨base, rfl⟩ := Has.base (ρ := ρ) (l := [(58, .int .i64 f.base)]) ⟨u58, trivial⟩
     clear u58
     refine RL.perm rfl hL.symm ?_
     clear hL
     refine RL.add rfl rfl rfl (by omega) ?_
     refine RL.nil ?_
     exact ⟨rfl, ⟨_, rfl, rfl⟩, .inl ⟨e3, e8, e9, e10, trivial, trivial, List.Perm.refl _⟩⟩
    ·have u56 : ρ 56 = .slice A10a (n9 + 16) cp10a := hρ.1
     have u58 : ρ 58 = .int .i64 f.base := hS.dep ⟨5, Ground.data⟩ (by simp) rfl _ _ rfl rfl
     clear hS hρ
     obtain ⟨base, rfl⟩ := Has.base (ρ := ρ) (l := [(56, .slice A10a (n9 + 16) cp10a), (58, .int .i64 f.base)]) ⟨u56, u58, trivial⟩
     clear u56 u58
     refine RL.perm rfl hL.symm ?_
     clear hL
     refine RL.add rfl rfl rfl (by omega) ?_
     refine RL.nil ?_
     exact ⟨rfl, ⟨_, rfl, rfl⟩, .inr (.inl ⟨e3, e8, e9, e10, trivial, A10a, cp10a, Lr10a, hp0, ⟨rfl, trivial⟩, List.Perm.refl _⟩)⟩
    ·exact hS.hi 8 rfl (by kernel_rfl) e8
    ·exact hS.hi 8 rfl (by kernel_rfl) e8
    ·exact hS.hi 8 rfl (by kernel_rfl) e8
    exact hS.hi 8 rfl (by kernel_rfl) e8
   ·intro ρ L D hS
    rcases hS.sp with ⟨e3, e8, e9, e10, -, hρ, hL⟩ | ⟨e3, e8, e9, e10, -, A10a, cp10a, Lr10a, hp0, hρ, hL⟩ | ⟨e3, e8, e9, e10, -, bb10, hρ, hL⟩ | ⟨e3, e8, e9, e10, -, A10a, cp10a, Lr10a, bb10, hp0, hρ, hL⟩ | ⟨e3, e8, e9, e10, -, A10a, cp10a, Lr10a, bb10, A10b, cp10b, Lr10b, hp0, hp1, hρ, hL⟩ | ⟨e3, e8, e9, e10, -, A10a, cp10a, Lr10a, bb10, A10b, cp10b, Lr10b, hp0, hp1, hρ, hL⟩
    ·have u59 : ρ 59 = .int .i64 ((f.base) + (1)) := hS.dep ⟨6, Ground.data⟩ (by simp) rfl _ _ rfl rfl
     clear hS hρ
     obtain ⟨base, rfl⟩ := Has.base (ρ := ρ) (l := [(59, .int .i64 ((f.base) + (1)))]) ⟨u59, trivial⟩
     clear u59
     refine RL.perm rfl hL.symm ?_
     clear hL
     refine RL.conv rfl Try.underlying3 Try.underlying5 rfl ?_
     refine RL.nil ?_
     exact ⟨rfl, ⟨_, rfl, rfl⟩, .inl ⟨e3, e8, e9, e10, trivial, trivial, List.Perm.refl _⟩⟩
    ·have u56 : ρ 56 = .slice A10a (n9 + 16) cp10a := hρ.1
     have u59 : ρ 59 = .int .i64 ((f.base) + (1)) := hS.dep ⟨6, Ground.data⟩ (by simp) rfl _ _ rfl rfl
     clear hS hρ
     obtain ⟨base, rfl⟩ := Has.base (ρ := ρ) (l := [(56, .slice A10a (n9 + 16) cp10a), (59, .int .i64 ((f.base) + (1)))]) ⟨u56, u59, trivial⟩
     clear u56 u59
     refine RL.perm rfl hL.symm ?_
     clear hL
     refine RL.conv rfl Try.underlying3 Try.underlying5 rfl ?_
     refine RL.nil ?_
     exact ⟨rfl, ⟨_, rfl, rfl⟩, .inr (.inl ⟨e3, e8, e9, e10, trivial, A10a, cp10a, Lr10a, hp0, ⟨rfl, trivial⟩, List.Perm.refl _⟩)⟩
    ·exact hS.hi 8 rfl (by kernel_rfl) e8
    ·exact hS.hi 8 rfl (by kernel_rfl) e8
    ·exact hS.hi 8 rfl (by kernel_rfl) e8
    exact hS.hi 8 rfl (by kernel_rfl) e8
   ·intro ρ L D hS
    rcases hS.sp with ⟨e3, e8, e9, e10, -, hρ, hL⟩ | ⟨e3, e8, e9, e10, -, A10a, cp10a, Lr10a, hp0, hρ, hL⟩ | ⟨e3, e8, e9, e10, -, bb10, hρ, hL⟩ | ⟨e3, e8, e9, e10, -, A10a, cp10a, Lr10a, bb10, hp0, hρ, hL⟩ | ⟨e3, e8, e9, e10, -, A10a, cp10a, Lr10a, bb10, A10b, cp10b, Lr10b, hp0, hp1, hρ, hL⟩ | ⟨e3, e8, e9, e10, -, A10a, cp10a, Lr10a, bb10, A10b, cp10b, Lr10b, hp0, hp1, hρ, hL⟩
    ·have u60 : ρ 60 = .int .u8 (u8 (f.base + 1)) := hS.dep ⟨7, Ground.data⟩ (by simp) rfl _ _ rfl rfl
     clear hS hρ
     obtain ⟨base, rfl⟩ := Has.base (ρ := ρ) (l := [(60, .int .u8 (u8 (f.base + 1)))]) ⟨u60, trivial⟩
     clear u60
     refine RL.perm rfl hL.symm ?_
     clear hL
     refine RL.bs1U rfl rfl sl84 zt5 rfl ?_
     intro bb10 hbb10
     refine RL.nil ?_
     exact ⟨rfl, ⟨_, rfl, trivial⟩, .inr (.inr (.inl ⟨e3, rfl, e9, e10, trivial, bb10, ⟨rfl, trivial⟩, (pmm fun _ _ z => by simp only [pm1, pm2, pm3, pm4, pm5, pm6, List.cons_append, List.nil_append] <;> omega)⟩))⟩
    ·have u56 : ρ 56 = .slice A10a (n9 + 16) cp10a := hρ.1
     have u60 : ρ 60 = .int .u8 (u8 (f.base + 1)) := hS.dep ⟨7, Ground.data⟩ (by simp) rfl _ _ rfl rfl
     clear hS hρ
     obtain ⟨base, rfl⟩ := Has.base (ρ := ρ) (l := [(56, .slice A10a (n9 + 16) cp10a), (60, .int .u8 (u8 (f.base + 1)))]) ⟨u56, u60, trivial⟩
     clear u56 u60
     refine RL.perm rfl hL.symm ?_
     clear hL
     refine RL.bs1U rfl rfl sl84 zt5 rfl ?_
     intro bb10 hbb10
     refine RL.nil ?_
     exact ⟨rfl, ⟨_, rfl, trivial⟩, .inr (.inr (.inr (.inl ⟨e3, rfl, e9, e10, trivial, A10a, cp10a, Lr10a, bb10, hp0, ⟨rfl, rfl, trivial⟩, (pmm fun _ _ z => by simp only [pm1, pm2, pm3, pm4, pm5, pm6, List.cons_append, List.nil_append] <;> omega)⟩)))⟩
    ·exact hS.me e8
    ·exact hS.me e8
    ·exact hS.hi 9 rfl (by kernel_rfl) e9
    exact hS.hi 9 rfl (by kernel_rfl) e9
   ·intro ρ L D hS
    rcases hS.sp with ⟨e3, e8, e9, e10, -, hρ, hL⟩ | ⟨e3, e8, e9, e10, -, A10a, cp10a, Lr10a, hp0, hρ, hL⟩ | ⟨e3, e8, e9, e10, -, bb10, hρ, hL⟩ | ⟨e3, e8, e9, e10, -, A10a, cp10a, Lr10a, bb10, hp0, hρ, hL⟩ | ⟨e3, e8, e9, e10, -, A10a, cp10a, Lr10a, bb10, A10b, cp10b, Lr10b, hp0, hp1, hρ, hL⟩ | ⟨e3, e8, e9, e10, -, A10a, cp10a, Lr10a, bb10, A10b, cp10b, Lr10b, hp0, hp1, hρ, hL⟩
    ·exact hS.lo 3 (by kernel_rfl) e3
    ·exact hS.lo 8 (by kernel_rfl) e8
    ·exact hS.lo 3 (by kernel_rfl) e3
    ·have u56 : ρ 56 = .slice A10a (n9 + 16) cp10a := hρ.1
     have u61 : ρ 61 = .slice (some ⟨bb10, 0, none⟩) 1 1 := hρ.2.1
     clear hS hρ
     obtain ⟨base, rfl⟩ := Has.base (ρ := ρ) (l := [(56, .slice A10a (n9 + 16) cp10a), (61, .slice (some ⟨bb10, 0, none⟩) 1 1)]) ⟨u56, u61, trivial⟩
     clear u56 u61
     refine RL.perm rfl hL.symm ?_
     clear hL
     refine RL.appB (Lr := Lr10a) (xs := gcells (((((u8 m.length :: ((m.take g).map encC).flatten) ++ cl.id) ++ [u8 cl.faces.length]) ++ ((cl.faces.take k).map encF).flatten) ++ f.id)) (ys := gcells [u8 (f.base + 1)]) (N := n9 + 16 + 1) rfl rfl sl84 el_u8 (by decide) (by decide) Try.underlying84 rfl hp0 rfl (List.Perm.refl _) (by simp) rfl (gcells_one _) (by omega) rfl ?_
     intro A10b cp10b Lr10b hr10b
     rw [← gcells_app] at hr10b
     refine RL.nil ?_
     exact ⟨rfl, ⟨_, rfl, trivial⟩, .inr (.inr (.inr (.inr (.inl ⟨e3, e8, rfl, e10, trivial, A10a, cp10a, Lr10a, bb10, A10b, cp10b, Lr10b, hp0, hr10b, ⟨rfl, rfl, rfl, trivial⟩, (pmm fun _ _ z => by simp only [pm1, pm2, pm3, pm4, pm5, pm6, List.cons_append, List.nil_append] <;> omega)⟩))))⟩
    ·exact hS.me e9
    exact hS.hi 10 rfl (by kernel_rfl) e10
   ·intro ρ L D hS
    rcases hS.sp with ⟨e3, e8, e9, e10, -, hρ, hL⟩ | ⟨e3, e8, e9, e10, -, A10a, cp10a, Lr10a, hp0, hρ, hL⟩ | ⟨e3, e8, e9, e10, -, bb10, hρ, hL⟩ | ⟨e3, e8, e9, e10, -, A10a, cp10a, Lr10a, bb10, hp0, hρ, hL⟩ | ⟨e3, e8, e9, e10, -, A10a, cp10a, Lr10a, bb10, A10b, cp10b, Lr10b, hp0, hp1, hρ, hL⟩ | ⟨e3, e8, e9, e10, -, A10a, cp10a, Lr10a, bb10, A10b, cp10b, Lr10b, hp0, hp1, hρ, hL⟩
    ·exact hS.lo 3 (by kernel_rfl) e3
    ·exact hS.lo 8 (by kernel_rfl) e8
    ·exact hS.lo 3 (by kernel_rfl) e3
    ·exact hS.lo 9 (by kernel_rfl) e9
    ·have u56 : ρ 56 = .slice A10a (n9 + 16) cp10a := hρ.1
     have u61 : ρ 61 = .slice (some ⟨bb10, 0, none⟩) 1 1 := hρ.2.1
     have u62 : ρ 62 = .slice A10b (n9 + 16 + 1) cp10b := hρ.2.2.1
     clear hS hρ
     obtain ⟨base, rfl⟩ := Has.base (ρ := ρ) (l := [(56, .slice A10a (n9 + 16) cp10a), (61, .slice (some ⟨bb10, 0, none⟩) 1 1), (62, .slice A10b (n9 + 16 + 1) cp10b)]) ⟨u56, u61, u62, trivial⟩
     clear u56 u61 u62
     refine RL.perm rfl hL.symm ?_
     clear hL
     refine RL.assign rfl ?_
     refine RL.nil ?_
     exact ⟨rfl, ⟨_, rfl, trivial⟩, .inr (.inr (.inr (.inr (.inr (⟨e3, e8, e9, rfl, trivial, A10a, cp10a, Lr10a, bb10, A10b, cp10b, Lr10b, hp0, hp1, ⟨rfl, rfl, rfl, rfl, trivial⟩, (pmm fun _ _ z => by simp only [pm1, pm2, pm3, pm4, pm5, pm6, List.cons_append, List.nil_append] <;> omega)⟩)))))⟩
    exact hS.me e10
   intro ρ L D hD hT hfix hsp
   rcases hsp with ⟨e3, e8, e9, e10, -, hρ, hL⟩ | ⟨e3, e8, e9, e10, -, A10a, cp10a, Lr10a, hp0, hρ, hL⟩ | ⟨e3, e8, e9, e10, -, bb10, hρ, hL⟩ | ⟨e3, e8, e9, e10, -, A10a, cp10a, Lr10a, bb10, hp0, hρ, hL⟩ | ⟨e3, e8, e9, e10, -, A10a, cp10a, Lr10a, bb10, A10b, cp10b, Lr10b, hp0, hp1, hρ, hL⟩ | ⟨e3, e8, e9, e10, -, A10a, cp10a, Lr10a, bb10, A10b, cp10b, Lr10b, hp0, hp1, hρ, hL⟩
   ·exact done_no hD 3 rfl e3
   ·exact done_no hD 8 rfl e8
   ·exact done_no hD 3 rfl e3
   ·exact done_no hD 9 rfl e9
   ·exact done_no hD 10 rfl e10
   have u1 : ρ 1 = .pointer (some ⟨b1, 0, none⟩) := hfix 1 (by decide)
   have u6 : ρ 6 = .slice A10b (n9 + 16 + 1) cp10b := hρ.1
   have u8 : ρ 8 = .pointer (some ⟨b8, 0, none⟩) := hfix 8 (by decide)
   have u30 : ρ 30 = .slice A m.length n := hfix 30 (by decide)
   have u31 : ρ 31 = .int .i64 m.length := hfix 31 (by decide)
   have u32 : ρ 32 = .int .i64 g := hfix 32 (by decide)
   have u47 : ρ 47 = .slice Af cl.faces.length cf := hfix 47 (by decide)
   have u48 : ρ 48 = .int .i64 cl.faces.length := hfix 48 (by decide)
   have u49 : ρ 49 = .int .i64 k := hfix 49 (by decide)
   have u56 : ρ 56 = .slice A10a (n9 + 16) cp10a := hρ.2.1
   have u61 : ρ 61 = .slice (some ⟨bb10, 0, none⟩) 1 1 := hρ.2.2.1
   have u62 : ρ 62 = .slice A10b (n9 + 16 + 1) cp10b := hρ.2.2.2.1
   clear hT hfix hD hρ
   obtain ⟨base, rfl⟩ := Has.base (ρ := ρ) (l := [(1, .pointer (some ⟨b1, 0, none⟩)), (6, .slice A10b (n9 + 16 + 1) cp10b), (8, .pointer (some ⟨b8, 0, none⟩)), (30, .slice A m.length n), (31, .int .i64 m.length), (32, .int .i64 g), (47, .slice Af cl.faces.length cf), (48, .int .i64 cl.faces.length), (49, .int .i64 k), (56, .slice A10a (n9 + 16) cp10a), (61, .slice (some ⟨bb10, 0, none⟩) 1 1), (62, .slice A10b (n9 + 16 + 1) cp10b)]) ⟨u1, u6, u8, u30, u31, u32, u47, u48, u49, u56, u61, u62, trivial⟩
   clear u1 u6 u8 u30 u31 u32 u47 u48 u49 u56 u61 u62
   refine ⟨_, hL.symm, ((Lr10b) ++ (([(b10, cel 93 f.cells)]) ++ (([(b8, cel 69 (clCells cl.id (.slice Af cl.faces.length cf) cl.slots (.slice Am cl.methods.length cm)))]) ++ ([(b1, cel 30 [.slice A m.length n])])))), List.Sublist.append (List.Sublist.refl _) (List.Sublist.append (List.Sublist.refl _) (List.Sublist.append (List.Sublist.refl _) (List.sublist_append_left _ _))), ?_⟩
   refine X.blk ?_
   refine X.region rfl ?_
   refine RL.add rfl rfl rfl (by omega) ?_
   refine RL.move rfl ?_
   refine RL.nil ?_
   refine X.hyp ⟨rfl, k + 1, by omega, _, (List.Sublist.append (List.Sublist.refl _) (List.sublist_append_right [(b10, cel 93 f.cells)] _)), A10b, n9 + 16 + 1, cp10b, Lr10b, by omega, (by rw [flat_take hf, encF, ← List.append_assoc, ← List.append_assoc]; exact hp1), by omega, ⟨rfl, rfl, rfl, rfl, rfl, rfl, rfl, rfl, rfl, trivial⟩, rfl⟩
  replace hk : ¬ ((_ : Int) < _) := hk
  have hkk : k = cl.faces.length := by omega
  subst hkk
  rw [List.take_of_length_le (Nat.le_refl _)] at hr9
  refine RL.nil ?_
  refine X.seq ?_
  refine X.cond_f rfl ?_
  refine X.exit rfl ?_
  refine X.seq ?_
  refine X.region rfl ?_
  refine RL.move rfl ?_
  refine RL.fieldAddr rfl fd69_2 rfl ?_
  refine RL.loadO rfl sc3 rfl (clCells_s hid) ?_
  refine RL.conv rfl Try.underlying3 Try.underlying5 rfl ?_
  refine RL.fieldAddr rfl fd69_3 rfl ?_
  refine RL.loadO rfl sc67 rfl (clCells_m hid) ?_
  refine RL.len rfl sl67 rfl ?_
  refine RL.conv rfl Try.underlying3 Try.underlying5 rfl ?_
  refine RL.bsC (vs := [(0, .int .u8 (u8 cl.slots)), (1, .int .u8 (u8 cl.methods.length))]) (cells := gcells [u8 cl.slots, u8 cl.methods.length]) rfl rfl sl84 (fun w => let ⟨v, a, b⟩ := zt5; ⟨v, a, b w⟩) rfl rfl rfl (by kernel_rfl) ?_
  intro bb11 hbb11
  refine RL.appB (Lr := Lr9) (Lz := (bb11, cel 5 (gcells ([u8 cl.slots, u8 cl.methods.length]))) :: [(b8, cel 69 (clCells cl.id (.slice Af cl.faces.length cf) cl.slots (.slice Am cl.methods.length cm))), (b1, cel 30 [.slice A m.length n])]) (xs := gcells ((((u8 m.length :: ((m.take g).map encC).flatten) ++ cl.id) ++ [u8 cl.faces.length]) ++ (cl.faces.map encF).flatten)) (ys := gcells ([u8 cl.slots, u8 cl.methods.length])) (N := n9 + 2) rfl rfl sl84 el_u8 (by decide) (by decide) Try.underlying84 rfl hr9 rfl List.perm_middle.symm List.mem_cons_self rfl (gcells_one _) (by omega) rfl ?_
  intro A11 cp11 Lr11 hr11
  rw [← gcells_app] at hr11
  refine RL.drop (L' := Lr11 ++ [(b8, cel 69 (clCells cl.id (.slice Af cl.faces.length cf) cl.slots (.slice Am cl.methods.length cm))), (b1, cel 30 [.slice A m.length n])]) rfl (List.Sublist.append (List.Sublist.refl _) (List.sublist_cons_self _ _)) ?_
  refine RL.assign rfl ?_
  refine RL.nil ?_
  refine X.seq ?_
  refine X.region rfl ?_
  refine RL.fieldAddr rfl fd69_3 rfl ?_
  refine RL.loadO rfl sc67 rfl (clCells_m hid) ?_
  refine RL.len rfl sl67 rfl ?_
  refine RL.move rfl ?_
  refine RL.nil ?_
  refine X.block ?_
  refine X.loop (γ := Nat) (fun k ρ L => ∃ A12 : Option Addr, ∃ n12 : Nat, ∃ cp12 : Nat, ∃ Lr12 : List Ent, (k ≤ cl.methods.length) ∧ (Row 5 1 (.slice A12 (n12) cp12) (gcells ((((((u8 m.length :: ((m.take g).map encC).flatten) ++ cl.id) ++ [u8 cl.faces.length]) ++ (cl.faces.map encF).flatten) ++ [u8 cl.slots, u8 cl.methods.length]) ++ ((cl.methods.take k).map encM).flatten)) Lr12) ∧ (n12 ≤ n6 + 17 + 17 * 16 + 2 + 193 * k) ∧ Has ρ [(1, .pointer (some ⟨b1, 0, none⟩)), (6, .slice A12 n12 cp12), (8, .pointer (some ⟨b8, 0, none⟩)), (30, .slice A m.length n), (31, .int .i64 m.length), (32, .int .i64 g), (75, .slice Am cl.methods.length cm), (76, .int .i64 cl.methods.length), (77, .int .i64 k)] ∧ L = Lr12 ++ [(b8, cel 69 (clCells cl.id (.slice Af cl.faces.length cf) cl.slots (.slice Am cl.methods.length cm))), (b1, cel 30 [.slice A m.length n])]) (fun k => cl.methods.length - k) (0) ⟨_, (by repeat (first | exact sb0 _ | exact sb1 _ | (rw [List.append_nil]; exact sb0 _) | exact sb2 _ _ | exact sb3 _ _ _ | apply sb4 | apply sb5 | apply sb6)), A11, n9 + 2, cp11, Lr11, Nat.zero_le _, (by rw [show ((cl.methods.take 0).map encM).flatten = [] from rfl, List.append_nil]; exact hr11), by omega, ⟨rfl, rfl, rfl, rfl, rfl, rfl, rfl, rfl, rfl, trivial⟩, rfl⟩ ?_
  rintro k _ _ ⟨A12, n12, cp12, Lr12, hk1, hr12, hn12, hρ, rfl⟩
  obtain ⟨base, rfl⟩ := hρ.base
  clear hρ
  refine X.seq ?_
  refine X.region rfl ?_
  refine RL.cmp_s rfl rfl rfl rfl (fun hk => ?_) (fun hk => ?_)
  ·replace hk : (_ : Int) < _ := hk
   obtain ⟨l, hl⟩ : ∃ l, cl.methods[k]? = some l := ⟨_, List.getElem?_eq_getElem (by omega)⟩
   obtain ⟨Al, c2, hml, bl, ol, hAl0, hcl2⟩ := hms.2 k l hl
   have hAl : 0 < l.length → Al = some ⟨bl, ol, none⟩ := fun h => hAl0 (by rw [ecells_len Ins.len]; omega)
   have hll := hcv.l32 (List.mem_of_getElem? hl)
   refine RL.nil ?_
   refine X.seq ?_
   refine X.cond_t rfl ?_
   refine X.skip ?_
   refine X.seq ?_
   refine X.block ?_
   refine X.seq ?_
   refine X.region rfl ?_
   refine RL.indexAddr rfl sl67 rfl rfl (hAm (by omega)) rfl (by omega) ?_
   refine RL.loadI rfl sc78 rfl (by rw [Nat.mul_one]; exact hcm k _ hml) (by simp) ?_
   refine RL.assign rfl ?_
   refine RL.nil ?_
   refine X.seq ?_
   refine X.region rfl ?_
   refine RL.move rfl ?_
   refine RL.move rfl ?_
   refine RL.len rfl sl78 rfl ?_
   refine RL.conv rfl Try.underlying3 Try.underlying5 rfl ?_
   refine RL.bs1U rfl rfl sl84 zt5 rfl ?_
   intro bb13 hbb13
   refine RL.appB (Lr := Lr12) (Lz := (bb13, cel 5 (gcells ([u8 l.length]))) :: [(b8, cel 69 (clCells cl.id (.slice Af cl.faces.length cf) cl.slots (.slice Am cl.methods.length cm))), (b1, cel 30 [.slice A m.length n])]) (xs := gcells ((((((u8 m.length :: ((m.take g).map encC).flatten) ++ cl.id) ++ [u8 cl.faces.length]) ++ (cl.faces.map encF).flatten) ++ [u8 cl.slots, u8 cl.methods.length]) ++ ((cl.methods.take k).map encM).flatten)) (ys := gcells ([u8 l.length])) (N := n12 + 1) rfl rfl sl84 el_u8 (by decide) (by decide) Try.underlying84 rfl hr12 rfl List.perm_middle.symm List.mem_cons_self rfl (gcells_one _) (by omega) rfl ?_
   intro A13 cp13 Lr13 hr13
   rw [← gcells_app] at hr13
   refine RL.drop (L' := Lr13 ++ [(b8, cel 69 (clCells cl.id (.slice Af cl.faces.length cf) cl.slots (.slice Am cl.methods.length cm))), (b1, cel 30 [.slice A m.length n])]) rfl (List.Sublist.append (List.Sublist.refl _) (List.sublist_cons_self _ _)) ?_
   refine RL.assign rfl ?_
   refine RL.nil ?_
   refine X.seq ?_
   refine X.region rfl ?_
   refine RL.move rfl ?_
   refine RL.len rfl sl78 rfl ?_
   refine RL.move rfl ?_
   refine RL.nil ?_
   refine X.block ?_
   refine X.loop (γ := Nat) (fun j ρ L => ∃ A15 : Option Addr, ∃ n15 : Nat, ∃ cp15 : Nat, ∃ Lr15 : List Ent, (j ≤ l.length) ∧ (Row 5 1 (.slice A15 (n15) cp15) (gcells ((((((((u8 m.length :: ((m.take g).map encC).flatten) ++ cl.id) ++ [u8 cl.faces.length]) ++ (cl.faces.map encF).flatten) ++ [u8 cl.slots, u8 cl.methods.length]) ++ ((cl.methods.take k).map encM).flatten) ++ [u8 l.length]) ++ ((l.take j).map encI).flatten)) Lr15) ∧ (n15 ≤ n12 + 1 + 6 * j) ∧ Has ρ [(1, .pointer (some ⟨b1, 0, none⟩)), (6, .slice A15 n15 cp15), (8, .pointer (some ⟨b8, 0, none⟩)), (30, .slice A m.length n), (31, .int .i64 m.length), (32, .int .i64 g), (75, .slice Am cl.methods.length cm), (76, .int .i64 cl.methods.length), (77, .int .i64 k), (87, .slice Al l.length c2), (88, .int .i64 l.length), (89, .int .i64 j)] ∧ L = Lr15 ++ [(b8, cel 69 (clCells cl.id (.slice Af cl.faces.length cf) cl.slots (.slice Am cl.methods.length cm))), (b1, cel 30 [.slice A m.length n])]) (fun j => l.length - j) (0) ⟨_, (by repeat (first | exact sb0 _ | exact sb1 _ | (rw [List.append_nil]; exact sb0 _) | exact sb2 _ _ | exact sb3 _ _ _ | apply sb4 | apply sb5 | apply sb6)), A13, n12 + 1, cp13, Lr13, Nat.zero_le _, (by rw [show ((l.take 0).map encI).flatten = [] from rfl, List.append_nil]; exact hr13), by omega, ⟨rfl, rfl, rfl, rfl, rfl, rfl, rfl, rfl, rfl, rfl, rfl, rfl, trivial⟩, rfl⟩ ?_
   rintro j _ _ ⟨A15, n15, cp15, Lr15, hj0, hr15, hn15, hρ, rfl⟩
   obtain ⟨base, rfl⟩ := hρ.base
   clear hρ
   refine X.seq ?_
   refine X.region rfl ?_
   refine RL.cmp_s rfl rfl rfl rfl (fun hj => ?_) (fun hj => ?_)
   ·replace hj : (_ : Int) < _ := hj
    obtain ⟨x, hx⟩ : ∃ x, l[j]? = some x := ⟨_, List.getElem?_eq_getElem (by omega)⟩
    refine RL.nil ?_
    refine X.seq ?_
    refine X.cond_t rfl ?_
    refine X.skip ?_
    refine X.seq ?_
    refine X.block ?_
    refine X.seq ?_
    refine X.region rfl ?_
    refine RL.indexAddr rfl sl78 rfl rfl (hAl (by omega)) rfl (by omega) ?_
    refine RL.loadIA rfl ag77 rfl (elem_at Ins.len hcl2 hx) (by simp) (Ins.len _) ?_
    refine RL.alloc rfl rfl zt77 ?_
    intro b14 hb14
    dsimp only at hb14
    refine RL.stA rfl rfl ag77.size rfl rfl (Ins.len _) rfl (Ins.one x) ?_
    refine RL.nil ?_
    refine X.seq ?_
    refine X.region rfl ?_
    refine RL.move rfl ?_
    refine RL.fieldAddr rfl fd77_0 rfl ?_
    refine RL.loadO rfl sc3 rfl rfl ?_
    refine RL.conv rfl Try.underlying3 Try.underlying5 rfl ?_
    refine RL.fieldAddr rfl fd77_2 rfl ?_
    refine RL.loadO rfl sc3 rfl rfl ?_
    refine RL.conv rfl Try.underlying3 Try.underlying5 rfl ?_
    refine RL.bsC (vs := [(0, .int .u8 (u8 x.op)), (1, .int .u8 (u8 x.b))]) (cells := gcells [u8 x.op, u8 x.b]) rfl rfl sl84 (fun w => let ⟨v, a, b⟩ := zt5; ⟨v, a, b w⟩) rfl rfl rfl (by kernel_rfl) ?_
    intro bb16 hbb16
    refine RL.perm (L' := (bb16, cel 5 (gcells [u8 x.op, u8 x.b])) :: (Lr15 ++ [(b14, cel 77 x.cells), (b8, cel 69 (clCells cl.id (.slice Af cl.faces.length cf) cl.slots (.slice Am cl.methods.length cm))), (b1, cel 30 [.slice A m.length n])])) rfl (by classical exact List.perm_iff_count.2 (fun z => by simp only [List.count_append, List.count_cons, List.count_nil, List.cons_append, List.nil_append, List.set_cons_zero, List.set_cons_succ] <;> omega)) ?_
    refine RL.appB (Lr := Lr15) (Lz := (bb16, cel 5 (gcells ([u8 x.op, u8 x.b]))) :: [(b14, cel 77 x.cells), (b8, cel 69 (clCells cl.id (.slice Af cl.faces.length cf) cl.slots (.slice Am cl.methods.length cm))), (b1, cel 30 [.slice A m.length n])]) (xs := gcells ((((((((u8 m.length :: ((m.take g).map encC).flatten) ++ cl.id) ++ [u8 cl.faces.length]) ++ (cl.faces.map encF).flatten) ++ [u8 cl.slots, u8 cl.methods.length]) ++ ((cl.methods.take k).map encM).flatten) ++ [u8 l.length]) ++ ((l.take j).map encI).flatten)) (ys := gcells ([u8 x.op, u8 x.b])) (N := n15 + 2) rfl rfl sl84 el_u8 (by decide) (by decide) Try.underlying84 rfl hr15 rfl List.perm_middle.symm List.mem_cons_self rfl (gcells_one _) (by omega) rfl ?_
    intro A16 cp16 Lr16 hr16
    rw [← gcells_app] at hr16
    refine RL.drop (L' := Lr16 ++ [(b14, cel 77 x.cells), (b8, cel 69 (clCells cl.id (.slice Af cl.faces.length cf) cl.slots (.slice Am cl.methods.length cm))), (b1, cel 30 [.slice A m.length n])]) rfl (List.Sublist.append (List.Sublist.refl _) (List.sublist_cons_self _ _)) ?_
    refine RL.assign rfl ?_
    refine RL.nil ?_
    refine X.seq ?_
    refine X.region rfl ?_
    refine RL.move rfl ?_
    refine RL.nil ?_
    refine X.block ?_
    refine X.loop (γ := Nat) (fun i ρ L => ∃ A17 : Option Addr, ∃ n17 : Nat, ∃ cp17 : Nat, ∃ Lr17 : List Ent, (i ≤ 4) ∧ (Row 5 1 (.slice A17 (n17) cp17) (gcells ((((((((((u8 m.length :: ((m.take g).map encC).flatten) ++ cl.id) ++ [u8 cl.faces.length]) ++ (cl.faces.map encF).flatten) ++ [u8 cl.slots, u8 cl.methods.length]) ++ ((cl.methods.take k).map encM).flatten) ++ [u8 l.length]) ++ ((l.take j).map encI).flatten) ++ [u8 x.op, u8 x.b]) ++ numX (IntKind.u32.wrap x.a) i)) Lr17) ∧ (n17 ≤ n15 + 2 + i) ∧ Has ρ [(1, .pointer (some ⟨b1, 0, none⟩)), (6, .slice A17 n17 cp17), (8, .pointer (some ⟨b8, 0, none⟩)), (14, .pointer (some ⟨b14, 0, none⟩)), (30, .slice A m.length n), (31, .int .i64 m.length), (32, .int .i64 g), (75, .slice Am cl.methods.length cm), (76, .int .i64 cl.methods.length), (77, .int .i64 k), (87, .slice Al l.length c2), (88, .int .i64 l.length), (89, .int .i64 j), (102, .int .i64 i)] ∧ L = Lr17 ++ [(b14, cel 77 x.cells), (b8, cel 69 (clCells cl.id (.slice Af cl.faces.length cf) cl.slots (.slice Am cl.methods.length cm))), (b1, cel 30 [.slice A m.length n])]) (fun i => 4 - i) (0) ⟨_, (by repeat (first | exact sb0 _ | exact sb1 _ | (rw [List.append_nil]; exact sb0 _) | exact sb2 _ _ | exact sb3 _ _ _ | apply sb4 | apply sb5 | apply sb6)), A16, n15 + 2, cp16, Lr16, Nat.zero_le _, (by rw [show numX (IntKind.u32.wrap x.a) 0 = [] from rfl, List.append_nil]; exact hr16), by omega, ⟨rfl, rfl, rfl, rfl, rfl, rfl, rfl, rfl, rfl, rfl, rfl, rfl, rfl, rfl, trivial⟩, rfl⟩ ?_
    rintro i _ _ ⟨A17, n17, cp17, Lr17, hi0, hr17, hn17, hρ, rfl⟩
    obtain ⟨base, rfl⟩ := hρ.base
    clear hρ
    refine X.seq ?_
    refine X.region rfl ?_
    refine RL.cmp_s rfl rfl rfl rfl (fun hi => ?_) (fun hi => ?_)
    ·replace hi : (_ : Int) < _ := hi
     refine RL.nil ?_
     refine X.seq ?_
     refine X.cond_t rfl ?_
     refine X.skip ?_
     refine X.seq ?_
     refine X.block ?_
     refine X.seq ?_
     refine X.region rfl ?_
     refine RL.move rfl ?_
     refine RL.assign rfl ?_
     refine RL.nil ?_
     refine X.region rfl ?_
     refine RL.move rfl ?_
     refine RL.fieldAddr rfl fd77_1 rfl ?_
     refine RL.loadO rfl sc3 rfl rfl ?_
     refine RL.conv rfl Try.underlying3 Try.underlying55 rfl ?_
     refine RL.move rfl ?_
     refine RL.mul rfl rfl rfl (by omega) ?_
     refine RL.shrN (n := 8 * i) rfl rfl rfl (by omega) (by show 8 * i ≤ 32; omega) ?_
     refine RL.convE rfl Try.underlying55 Try.underlying5 rfl (byte_shr (u32_nonneg _) i) ?_
     refine RL.bs1U rfl rfl sl84 zt5 rfl ?_
     intro bb18 hbb18
     refine RL.appB (Lr := Lr17) (Lz := (bb18, cel 5 (gcells ([byteN (IntKind.u32.wrap x.a) i]))) :: [(b14, cel 77 x.cells), (b8, cel 69 (clCells cl.id (.slice Af cl.faces.length cf) cl.slots (.slice Am cl.methods.length cm))), (b1, cel 30 [.slice A m.length n])]) (xs := gcells ((((((((((u8 m.length :: ((m.take g).map encC).flatten) ++ cl.id) ++ [u8 cl.faces.length]) ++ (cl.faces.map encF).flatten) ++ [u8 cl.slots, u8 cl.methods.length]) ++ ((cl.methods.take k).map encM).flatten) ++ [u8 l.length]) ++ ((l.take j).map encI).flatten) ++ [u8 x.op, u8 x.b]) ++ numX (IntKind.u32.wrap x.a) i)) (ys := gcells ([byteN (IntKind.u32.wrap x.a) i])) (N := n17 + 1) rfl rfl sl84 el_u8 (by decide) (by decide) Try.underlying84 rfl hr17 rfl List.perm_middle.symm List.mem_cons_self rfl (gcells_one _) (by omega) rfl ?_
     intro A18 cp18 Lr18 hr18
     rw [← gcells_app] at hr18
     refine RL.drop (L' := Lr18 ++ [(b14, cel 77 x.cells), (b8, cel 69 (clCells cl.id (.slice Af cl.faces.length cf) cl.slots (.slice Am cl.methods.length cm))), (b1, cel 30 [.slice A m.length n])]) rfl (List.Sublist.append (List.Sublist.refl _) (List.sublist_cons_self _ _)) ?_
     refine RL.assign rfl ?_
     refine RL.nil ?_
     refine X.blk ?_
     refine X.region rfl ?_
     refine RL.add rfl rfl rfl (by omega) ?_
     refine RL.move rfl ?_
     refine RL.nil ?_
     refine X.hyp ⟨rfl, i + 1, by omega, _, (List.Sublist.refl _), A18, n17 + 1, cp18, Lr18, by omega, (by rw [numX, ← List.append_assoc]; exact hr18), by omega, ⟨rfl, rfl, rfl, rfl, rfl, rfl, rfl, rfl, rfl, rfl, rfl, rfl, rfl, rfl, trivial⟩, rfl⟩
    replace hi : ¬ ((_ : Int) < _) := hi
    have hii : i = 4 := by omega
    subst hii
    refine RL.nil ?_
    refine X.seq ?_
    refine X.cond_f rfl ?_
    refine X.exit rfl ?_
    refine X.blk ?_
    refine X.region rfl ?_
    refine RL.add rfl rfl rfl (by omega) ?_
    refine RL.move rfl ?_
    refine RL.nil ?_
    refine X.hyp ⟨rfl, j + 1, by omega, _, (List.Sublist.append (List.Sublist.refl _) (List.sublist_append_right [(b14, cel 77 x.cells)] _)), A17, n17, cp17, Lr17, by omega, (by rw [flat_take hx, encI, ← List.append_assoc, ← List.append_assoc]; exact hr17), by omega, ⟨rfl, rfl, rfl, rfl, rfl, rfl, rfl, rfl, rfl, rfl, rfl, rfl, trivial⟩, rfl⟩
   replace hj : ¬ ((_ : Int) < _) := hj
   have hjj : j = l.length := by omega
   subst hjj
   rw [List.take_of_length_le (Nat.le_refl _)] at hr15
   have e15 : (((((u8 m.length :: ((m.take g).map encC).flatten) ++ cl.id) ++ [u8 cl.faces.length]) ++ (cl.faces.map encF).flatten) ++ [u8 cl.slots, u8 cl.methods.length]) ++ ((cl.methods.take (k + 1)).map encM).flatten = (((((((u8 m.length :: ((m.take g).map encC).flatten) ++ cl.id) ++ [u8 cl.faces.length]) ++ (cl.faces.map encF).flatten) ++ [u8 cl.slots, u8 cl.methods.length]) ++ ((cl.methods.take k).map encM).flatten) ++ [u8 l.length]) ++ (l.map encI).flatten := by rw [flat_take hl, encM]; simp
   refine RL.nil ?_
   refine X.seq ?_
   refine X.cond_f rfl ?_
   refine X.exit rfl ?_
   refine X.blk ?_
   refine X.region rfl ?_
   refine RL.add rfl rfl rfl (by omega) ?_
   refine RL.move rfl ?_
   refine RL.nil ?_
   refine X.hyp ⟨rfl, k + 1, by omega, _, (List.Sublist.refl _), A15, n15, cp15, Lr15, by omega, (by rw [e15]; exact hr15), by omega, ⟨rfl, rfl, rfl, rfl, rfl, rfl, rfl, rfl, rfl, trivial⟩, rfl⟩
  replace hk : ¬ ((_ : Int) < _) := hk
  have hkk2 : k = cl.methods.length := by omega
  subst hkk2
  rw [List.take_of_length_le (Nat.le_refl _)] at hr12
  have e12 : u8 (m.length : Int) :: ((m.take (g + 1)).map encC).flatten = (((((u8 m.length :: ((m.take g).map encC).flatten) ++ cl.id) ++ [u8 cl.faces.length]) ++ (cl.faces.map encF).flatten) ++ [u8 cl.slots, u8 cl.methods.length]) ++ (cl.methods.map encM).flatten := by rw [flat_take hcl, encC]; simp
  refine RL.nil ?_
  refine X.seq ?_
  refine X.cond_f rfl ?_
  refine X.exit rfl ?_
  refine X.blk ?_
  refine X.region rfl ?_
  refine RL.add rfl rfl rfl (by omega) ?_
  refine RL.move rfl ?_
  refine RL.nil ?_
  refine X.hyp ⟨rfl, g + 1, by omega, _, (List.Sublist.append (List.Sublist.refl _) (List.sublist_append_right [(b8, cel 69 (clCells cl.id (.slice Af cl.faces.length cf) cl.slots (.slice Am cl.methods.length cm)))] _)), A12, n12, cp12, Lr12, by omega, (by rw [e12]; exact hr12), by omega, ⟨rfl, rfl, rfl, rfl, rfl, trivial⟩, rfl⟩
 replace hg : ¬ ((_ : Int) < _) := hg
 have hgg : g = m.length := by omega
 subst hgg
 rw [List.take_of_length_le (Nat.le_refl _)] at hr6
 refine RL.nil ?_
 refine X.seq ?_
 refine X.cond_f rfl ?_
 refine X.exit rfl ?_
 refine X.seq ?_
 refine X.region rfl ?_
 refine RL.move rfl ?_
 refine RL.assign rfl ?_
 refine RL.assign rfl ?_
 refine RL.nil ?_
 refine X.ret ?_
 refine ret2 rfl ?_
 show ite ((mcheckP m).2 = 0) _ _
 rw [if_pos hok]
 exact ⟨A6, n6, cp6, Lr6, rfl, hr6, List.sublist_append_left _ _, by omega⟩
end Go.Proofs.Ytnebpklmbefmfaa

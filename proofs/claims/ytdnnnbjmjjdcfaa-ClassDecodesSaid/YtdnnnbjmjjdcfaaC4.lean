/- The form of a module, as the document has it. -/
import Derived.Test.YtdnnnbjmjjdcfaaC2
import Derived.Test.YtdnnnbjmjjdcfaaClassE
set_option linter.unusedVariables false
set_option linter.unusedSimpArgs false
namespace Go.Proofs.Ytdnnnbjmjjdcfaa
open Go.RowKit
attribute [local irreducible] X RL W Ctr
theorem f_rnum (x : Int) (hx : 0 ≤ x) (hx2 : x < 4294967296) (w : World) :
    Ctr Try.prog 33 [.slice none 0 0, .int .u64 x, .int .i64 4] w [] fun v L => ∃ A cp Lr, v = .slice A 4 cp ∧ Row 5 1 (.slice A 4 cp) (gcells (numX x 4)) Lr ∧ Lr.Sublist L := by
 refine Ctr.intro0 (n := 34) Try.func33 rfl Try.ntmps33 (Nat.le_of_ble_eq_true rfl) ?_
 refine X.seq ?_
 refine X.region rfl ?_
 refine RL.assign rfl ?_
 refine RL.nil ?_
 refine X.seq ?_
 refine X.region rfl ?_
 refine RL.assign rfl ?_
 refine RL.nil ?_
 refine X.seq ?_
 refine X.region rfl ?_
 refine RL.move rfl ?_
 refine RL.move rfl ?_
 refine RL.appG (Lr := []) (Lz := []) (xs := []) (ys := []) (N := 0) rfl rfl sl40 el_u8 (by decide) (by decide) Try.underlying40 (List.Perm.refl _) rfl Row.nil rfl rfl (by simp) (fun w2 hw2 => .inl rfl) (by omega) rfl ?_
 intro A7 cp7 Lr7 hr7
 rw [List.append_nil]
 refine RL.assign rfl ?_
 refine RL.nil ?_
 refine X.seq ?_
 refine X.block ?_
 refine X.loop (γ := Nat) (fun g ρ L => (True) ∧ Has ρ [(1, .int .u64 x), (2, .int .i64 4), (7, .slice A7 0 cp7)] ∧ L = Lr7) (fun g => 1) (0) ⟨_, (by repeat (first | exact List.Sublist.refl _ | exact List.nil_sublist _ | (rw [List.append_nil]; exact List.Sublist.refl _) | exact List.sublist_append_left _ _ | exact (List.sublist_append_left _ _).trans (List.sublist_append_left _ _) | apply List.Sublist.cons_cons | apply List.Sublist.cons | refine List.Sublist.trans ?_ (List.sublist_append_right _ _))), trivial, ⟨rfl, rfl, rfl, trivial⟩, rfl⟩ ?_
 rintro g _ _ ⟨q1, hρ, rfl⟩
 obtain ⟨base, rfl⟩ := hρ.base
 clear hρ
 rename_i Lr7
 refine X.seq ?_
 refine X.seq ?_
 refine X.region rfl ?_
 refine RL.move rfl ?_
 refine RL.len rfl sl40 rfl ?_
 refine RL.move rfl ?_
 refine RL.remE rfl rfl rfl (by decide) (show Int.tmod 0 4 = 0 from rfl) ?_
 refine RL.cmp_f rfl rfl rfl rfl (by show ¬ ((_ : Int) ≠ _); exact fun h => h rfl) ?_
 refine RL.nil ?_
 refine X.cond_f rfl ?_
 refine X.exit rfl ?_
 refine X.seq ?_
 refine X.seq ?_
 refine X.region rfl ?_
 refine RL.assign rfl ?_
 refine RL.nil ?_
 refine X.block ?_
 refine X.loop (γ := Nat) (fun g ρ L => ∃ A8 : Option Addr, ∃ cp8 : Nat, ∃ Lr8 : List Ent, (g ≤ 4) ∧ (Row 5 1 (.slice A8 g cp8) (gcells (numX x g)) Lr8) ∧ Has ρ [(1, .int .u64 (x / 2 ^ (8 * g))), (2, .int .i64 4), (7, .slice A8 g cp8), (8, .int .i64 g)] ∧ L = Lr8) (fun g => 4 - g) (0) ⟨_, (by repeat (first | exact List.Sublist.refl _ | exact List.nil_sublist _ | (rw [List.append_nil]; exact List.Sublist.refl _) | exact List.sublist_append_left _ _ | exact (List.sublist_append_left _ _).trans (List.sublist_append_left _ _) | apply List.Sublist.cons_cons | apply List.Sublist.cons | refine List.Sublist.trans ?_ (List.sublist_append_right _ _))), A7, cp7, Lr7, Nat.zero_le _, hr7, ⟨(by show Value.int .u64 x = _; rw [show (x / 2 ^ (8 * 0)) = x by simp]), rfl, rfl, rfl, trivial⟩, rfl⟩ ?_
 rintro g _ _ ⟨A8, cp8, Lr8, hg, hr8, hρ, rfl⟩
 obtain ⟨base, rfl⟩ := hρ.base
 clear hρ
 rename_i Lr8
 refine X.seq ?_
 refine X.seq ?_
 refine X.region rfl ?_
 refine RL.move rfl ?_
 refine RL.move rfl ?_
 refine RL.cmp_s rfl rfl rfl rfl (fun h => ?_) (fun h => ?_)
 ·replace h : (_ : Int) < _ := h
  refine RL.nil ?_
  refine X.cond_t rfl ?_
  refine X.skip ?_
  refine X.seq ?_
  refine X.block ?_
  refine X.seq ?_
  refine X.region rfl ?_
  refine RL.move rfl ?_
  refine RL.move rfl ?_
  refine RL.remE rfl rfl rfl (by decide) (num_rem hx g) ?_
  refine RL.convE rfl Try.underlying75 Try.underlying5 rfl (num_byte x g) ?_
  refine RL.bs1U rfl rfl sl40 zt5 rfl ?_
  intro bb9 hbb9
  refine RL.appB (Lr := Lr8) (Lz := [(bb9, cel 5 (gcells [byteN x g]))]) (xs := gcells (numX x g)) (ys := gcells [byteN x g]) (N := g + 1) rfl rfl sl40 el_u8 (by decide) (by decide) Try.underlying40 rfl hr8 rfl (List.perm_append_singleton _ _).symm (by simp) rfl (gcells_one _) (by omega) rfl ?_
  intro A9 cp9 Lr9 hr9
  rw [← gcells_app] at hr9
  refine RL.drop (L' := Lr9) rfl (List.sublist_append_left _ _) ?_
  refine RL.assign rfl ?_
  refine RL.nil ?_
  refine X.region rfl ?_
  refine RL.move rfl ?_
  refine RL.quo rfl rfl rfl (by decide) (num_quo hx hx2 g) ?_
  refine RL.assign rfl ?_
  refine RL.nil ?_
  refine X.blk ?_
  refine X.region rfl ?_
  refine RL.move rfl ?_
  refine RL.add rfl rfl rfl (by omega) ?_
  refine RL.assign rfl ?_
  refine RL.nil ?_
  refine X.hyp ⟨rfl, g + 1, by omega, _, (by repeat (first | exact List.Sublist.refl _ | exact List.nil_sublist _ | (rw [List.append_nil]; exact List.Sublist.refl _) | exact List.sublist_append_left _ _ | exact (List.sublist_append_left _ _).trans (List.sublist_append_left _ _) | apply List.Sublist.cons_cons | apply List.Sublist.cons | refine List.Sublist.trans ?_ (List.sublist_append_right _ _))), A9, cp9, Lr9, by omega, hr9, ⟨rfl, rfl, rfl, rfl, trivial⟩, rfl⟩
 ·replace h : ¬ ((_ : Int) < _) := h
  have hgg : g = 4 := by omega
  subst hgg
  refine RL.nil ?_
  refine X.cond_f rfl ?_
  refine X.exit rfl ?_
  refine X.seq ?_
  refine X.region rfl ?_
  refine RL.move rfl ?_
  refine RL.assign rfl ?_
  refine RL.nil ?_
  refine X.ret ?_
  refine ret1 rfl ?_
  exact ⟨A8, cp8, Lr8, rfl, hr8, List.Sublist.refl _⟩
set_option maxHeartbeats 2000000 in
set_option maxRecDepth 20000 in
theorem f_rencode (m : List Cl) (hsz : ∀ c ∈ m, ClSz c) (hlen : m.length ≤ 1000) (A : Option Addr) (n : Nat) (w : World) (hm : ModR w m A) (hok : (mcheckP m).2 = 0) :
    Ctr Try.prog 16 [.agg #[.slice A m.length n]] w [] fun v L => ∃ A2 n2 cp2 Lr2, v = .slice A2 n2 cp2 ∧ Row 5 1 (.slice A2 (n2) cp2) (gcells (encP m)) Lr2 ∧ Lr2.Sublist L ∧ n2 ≤ 20000 := by
 have hm1 := hm
 obtain ⟨bb, oo, hA, hc⟩ := hm.open
 obtain ⟨hm8, hmv⟩ := mcheck_v hok
 refine Ctr.intro0 (n := 126) Try.func16 rfl Try.ntmps16 (Nat.le_of_ble_eq_true rfl) ?_
 refine X.seq ?_
 refine X.region rfl ?_
 refine RL.boxA rfl rfl rfl ?_
 intro b1 hb1
 dsimp only at hb1
 refine RL.assign rfl ?_
 refine RL.nil ?_
 refine X.seq ?_
 refine X.region rfl ?_
 refine RL.fieldAddr rfl fd24_0 rfl ?_
 refine RL.loadO rfl sc22 rfl rfl ?_
 refine RL.len rfl sl22 rfl ?_
 refine RL.conv rfl Try.underlying3 Try.underlying5 rfl ?_
 refine RL.bs1U rfl rfl sl40 zt5 rfl ?_
 intro bb0 hbb0
 refine RL.assign rfl ?_
 refine RL.nil ?_
 refine X.seq ?_
 refine X.seq ?_
 refine X.region rfl ?_
 refine RL.assign rfl ?_
 refine RL.nil ?_
 refine X.block ?_
 refine X.loop (γ := Nat) (fun g ρ L => ∃ A6 : Option Addr, ∃ n6 : Nat, ∃ cp6 : Nat, ∃ Lr6 : List Ent, (g ≤ m.length) ∧ (Row 5 1 (.slice A6 (n6) cp6) (gcells (u8 m.length :: ((m.take g).map encC).flatten)) Lr6) ∧ (n6 ≤ 1 + 1835 * g) ∧ Has ρ [(1, .pointer (some ⟨b1, 0, none⟩)), (3, .slice A6 n6 cp6), (4, .int .i64 g)] ∧ L = Lr6 ++ [(b1, cel 24 [.slice A m.length n])]) (fun g => m.length - g) (0) ⟨_, (by repeat (first | exact List.Sublist.refl _ | exact List.nil_sublist _ | (rw [List.append_nil]; exact List.Sublist.refl _) | exact List.sublist_append_left _ _ | exact (List.sublist_append_left _ _).trans (List.sublist_append_left _ _) | apply List.Sublist.cons_cons | apply List.Sublist.cons | refine List.Sublist.trans ?_ (List.sublist_append_right _ _))), some ⟨bb0, 0, none⟩, 1, 1, [(bb0, cel 5 (gcells [u8 m.length]))], Nat.zero_le _, Row.blk bb0 1 1 (gcells [u8 m.length]) [] rfl rfl (Nat.le_refl _), by omega, ⟨rfl, rfl, rfl, trivial⟩, rfl⟩ ?_
 rintro g _ _ ⟨A6, n6, cp6, Lr6, hg0, hr6, hn6, hρ, rfl⟩
 obtain ⟨base, rfl⟩ := hρ.base
 clear hρ
 refine X.seq ?_
 refine X.seq ?_
 refine X.region rfl ?_
 refine RL.move rfl ?_
 refine RL.fieldAddr rfl fd24_0 rfl ?_
 refine RL.loadO rfl sc22 rfl rfl ?_
 refine RL.len rfl sl22 rfl ?_
 refine RL.cmp_s rfl rfl rfl rfl (fun hg => ?_) (fun hg => ?_)
 ·replace hg : (_ : Int) < _ := hg
  obtain ⟨cl, hcl⟩ : ∃ cl, m[g]? = some cl := ⟨_, List.getElem?_eq_getElem (by omega)⟩
  obtain ⟨cs, hcs, hcr⟩ := hc g cl hcl
  have hcz := hsz cl (List.mem_of_getElem? hcl)
  have hcv := hmv cl (List.mem_of_getElem? hcl)
  obtain ⟨hid, hfo, Af, cf, Am, cm, ms, rfl, ⟨bf, of_, hAf0, hcf⟩, ⟨bm, om, hAm, hcm⟩, hms⟩ := hcr
  rw [hms.1] at hAm
  have hAf : 0 < cl.faces.length → Af = some ⟨bf, of_, none⟩ := fun h => hAf0 (by rw [fcells_len hfo]; omega)
  have hnf := hcv.nf
  have hnm := hcv.nm
  have hsl := hcv.slots
  refine RL.nil ?_
  refine X.cond_t rfl ?_
  refine X.skip ?_
  refine X.seq ?_
  refine X.block ?_
  refine X.seq ?_
  refine X.region rfl ?_
  refine RL.fieldAddr rfl fd24_0 rfl ?_
  refine RL.loadO rfl sc22 rfl rfl ?_
  refine RL.move rfl ?_
  refine RL.indexAddr rfl sl22 rfl rfl (hA (by omega)) rfl (by omega) ?_
  refine RL.loadIA rfl ag38 rfl hcs (by simp) (clCells_len hid) ?_
  refine RL.alloc rfl rfl zt38 ?_
  intro b5 hb5
  dsimp only at hb5
  refine RL.stA rfl rfl ag38.size rfl rfl (clCells_len hid) rfl clCells_one ?_
  refine RL.nil ?_
  refine X.seq ?_
  refine X.region rfl ?_
  refine RL.move rfl ?_
  refine RL.fieldAddr rfl fd38_0 rfl ?_
  refine RL.sliceArr rfl Try.underlying34 sc5.size rfl ?_
  refine RL.perm (L' := Lr6 ++ [(b5, cel 38 (clCells cl.id (.slice Af cl.faces.length cf) cl.slots (.slice Am cl.methods.length cm))), (b1, cel 24 [.slice A m.length n])]) rfl (by classical exact List.perm_iff_count.2 (fun z => by simp only [List.count_append, List.count_cons, List.count_nil, List.cons_append, List.nil_append, List.set_cons_zero, List.set_cons_succ] <;> omega)) ?_
  refine RL.appG (Lr := Lr6) (Lz := [(b5, cel 38 (clCells cl.id (.slice Af cl.faces.length cf) cl.slots (.slice Am cl.methods.length cm))), (b1, cel 24 [.slice A m.length n])]) (xs := gcells (u8 m.length :: ((m.take g).map encC).flatten)) (ys := gcells cl.id) (N := n6 + 16) rfl rfl sl40 el_u8 (by decide) (by decide) Try.underlying40 (List.Perm.refl _) rfl hr6 rfl (by rw [gcells_len, hid]) (gcells_one _) (fun w2 hw2 => .inr ⟨_, _, rfl, own_id hid hw2 (show (b5, cel 38 (clCells cl.id (.slice Af cl.faces.length cf) cl.slots (.slice Am cl.methods.length cm))) ∈ _ by simp)⟩) (by omega) rfl ?_
  intro A7a cp7a Lr7a hr7a
  rw [← gcells_app] at hr7a
  refine RL.assign rfl ?_
  refine RL.nil ?_
  refine X.seq ?_
  refine X.region rfl ?_
  refine RL.move rfl ?_
  refine RL.fieldAddr rfl fd38_1 rfl ?_
  refine RL.loadO rfl sc35 rfl (clCells_f hid) ?_
  refine RL.len rfl sl35 rfl ?_
  refine RL.conv rfl Try.underlying3 Try.underlying5 rfl ?_
  refine RL.bs1U rfl rfl sl40 zt5 rfl ?_
  intro bb7 hbb7
  refine RL.appB (Lr := Lr7a) (Lz := (bb7, cel 5 (gcells ([u8 cl.faces.length]))) :: [(b5, cel 38 (clCells cl.id (.slice Af cl.faces.length cf) cl.slots (.slice Am cl.methods.length cm))), (b1, cel 24 [.slice A m.length n])]) (xs := gcells ((u8 m.length :: ((m.take g).map encC).flatten) ++ cl.id)) (ys := gcells ([u8 cl.faces.length])) (N := n6 + 16 + 1) rfl rfl sl40 el_u8 (by decide) (by decide) Try.underlying40 rfl hr7a rfl List.perm_middle.symm List.mem_cons_self rfl (gcells_one _) (by omega) rfl ?_
  intro A7 cp7 Lr7 hr7
  rw [← gcells_app] at hr7
  refine RL.drop (L' := Lr7 ++ [(b5, cel 38 (clCells cl.id (.slice Af cl.faces.length cf) cl.slots (.slice Am cl.methods.length cm))), (b1, cel 24 [.slice A m.length n])]) rfl (List.Sublist.append (List.Sublist.refl _) (List.sublist_cons_self _ _)) ?_
  refine RL.assign rfl ?_
  refine RL.nil ?_
  refine X.seq ?_
  refine X.seq ?_
  refine X.region rfl ?_
  refine RL.assign rfl ?_
  refine RL.nil ?_
  refine X.block ?_
  refine X.loop (γ := Nat) (fun k ρ L => ∃ A9 : Option Addr, ∃ n9 : Nat, ∃ cp9 : Nat, ∃ Lr9 : List Ent, (k ≤ cl.faces.length) ∧ (Row 5 1 (.slice A9 (n9) cp9) (gcells ((((u8 m.length :: ((m.take g).map encC).flatten) ++ cl.id) ++ [u8 cl.faces.length]) ++ ((cl.faces.take k).map encF).flatten)) Lr9) ∧ (n9 ≤ n6 + 17 + 17 * k) ∧ Has ρ [(1, .pointer (some ⟨b1, 0, none⟩)), (3, .slice A9 n9 cp9), (4, .int .i64 g), (5, .pointer (some ⟨b5, 0, none⟩)), (6, .int .i64 k)] ∧ L = Lr9 ++ [(b5, cel 38 (clCells cl.id (.slice Af cl.faces.length cf) cl.slots (.slice Am cl.methods.length cm))), (b1, cel 24 [.slice A m.length n])]) (fun k => cl.faces.length - k) (0) ⟨_, (by repeat (first | exact List.Sublist.refl _ | exact List.nil_sublist _ | (rw [List.append_nil]; exact List.Sublist.refl _) | exact List.sublist_append_left _ _ | exact (List.sublist_append_left _ _).trans (List.sublist_append_left _ _) | apply List.Sublist.cons_cons | apply List.Sublist.cons | refine List.Sublist.trans ?_ (List.sublist_append_right _ _))), A7, n6 + 16 + 1, cp7, Lr7, Nat.zero_le _, (by rw [show ((cl.faces.take 0).map encF).flatten = [] from rfl, List.append_nil]; exact hr7), by omega, ⟨rfl, rfl, rfl, rfl, rfl, trivial⟩, rfl⟩ ?_
  rintro k _ _ ⟨A9, n9, cp9, Lr9, hk0, hr9, hn9, hρ, rfl⟩
  obtain ⟨base, rfl⟩ := hρ.base
  clear hρ
  refine X.seq ?_
  refine X.seq ?_
  refine X.region rfl ?_
  refine RL.move rfl ?_
  refine RL.fieldAddr rfl fd38_1 rfl ?_
  refine RL.loadO rfl sc35 rfl (clCells_f hid) ?_
  refine RL.len rfl sl35 rfl ?_
  refine RL.cmp_s rfl rfl rfl rfl (fun hk => ?_) (fun hk => ?_)
  ·replace hk : (_ : Int) < _ := hk
   obtain ⟨f, hf⟩ : ∃ f, cl.faces[k]? = some f := ⟨_, List.getElem?_eq_getElem (by omega)⟩
   have hfk := hfo f (List.mem_of_getElem? hf)
   have hfk2 : f.id.length = 16 := hfk
   have hbs := hcv.base f (List.mem_of_getElem? hf)
   refine RL.nil ?_
   refine X.cond_t rfl ?_
   refine X.skip ?_
   refine X.seq ?_
   refine X.block ?_
   refine X.seq ?_
   refine X.region rfl ?_
   refine RL.fieldAddr rfl fd38_1 rfl ?_
   refine RL.loadO rfl sc35 rfl (clCells_f hid) ?_
   refine RL.move rfl ?_
   refine RL.indexAddr rfl sl35 rfl rfl (hAf (by omega)) rfl (by omega) ?_
   refine RL.fieldAddr rfl fd72_0 rfl ?_
   refine RL.loadIA rfl ag34 rfl (face_id_at hcf hfo hf) (by simp) (gcells_length hfk) ?_
   refine RL.alloc rfl rfl zt34 ?_
   intro b7 hb7
   dsimp only at hb7
   refine RL.stA rfl rfl ag34.size rfl rfl (gcells_length hfk) rfl (gcells_one _) ?_
   refine RL.nil ?_
   refine X.seq ?_
   refine X.region rfl ?_
   refine RL.move rfl ?_
   refine RL.sliceArr rfl Try.underlying34 sc5.size rfl ?_
   refine RL.perm (L' := Lr9 ++ [(b7, cel 34 (gcells f.id)), (b5, cel 38 (clCells cl.id (.slice Af cl.faces.length cf) cl.slots (.slice Am cl.methods.length cm))), (b1, cel 24 [.slice A m.length n])]) rfl (by classical exact List.perm_iff_count.2 (fun z => by simp only [List.count_append, List.count_cons, List.count_nil, List.cons_append, List.nil_append, List.set_cons_zero, List.set_cons_succ] <;> omega)) ?_
   refine RL.appG (Lr := Lr9) (Lz := [(b7, cel 34 (gcells f.id)), (b5, cel 38 (clCells cl.id (.slice Af cl.faces.length cf) cl.slots (.slice Am cl.methods.length cm))), (b1, cel 24 [.slice A m.length n])]) (xs := gcells ((((u8 m.length :: ((m.take g).map encC).flatten) ++ cl.id) ++ [u8 cl.faces.length]) ++ ((cl.faces.take k).map encF).flatten)) (ys := gcells f.id) (N := n9 + 16) rfl rfl sl40 el_u8 (by decide) (by decide) Try.underlying40 (List.Perm.refl _) rfl hr9 rfl (by rw [gcells_len, hfk2]) (gcells_one _) (fun w2 hw2 => .inr ⟨_, _, rfl, (by have h := hw2.cellsO (show (b7, cel 34 (gcells f.id)) ∈ _ by simp) 0; simpa using h)⟩) (by omega) rfl ?_
   intro A10a cp10a Lr10a hr10a
   rw [← gcells_app] at hr10a
   refine RL.assign rfl ?_
   refine RL.nil ?_
   refine X.region rfl ?_
   refine RL.move rfl ?_
   refine RL.fieldAddr rfl fd38_1 rfl ?_
   refine RL.loadO rfl sc35 rfl (clCells_f hid) ?_
   refine RL.move rfl ?_
   refine RL.indexAddr rfl sl35 rfl rfl (hAf (by omega)) rfl (by omega) ?_
   refine RL.fieldAddr rfl fd72_1 rfl ?_
   refine RL.loadI rfl sc3 rfl (face_base_at hcf hfo hf) (by simp) ?_
   refine RL.add rfl rfl rfl (by omega) ?_
   refine RL.conv rfl Try.underlying3 Try.underlying5 rfl ?_
   refine RL.bs1U rfl rfl sl40 zt5 rfl ?_
   intro bb10 hbb10
   refine RL.appB (Lr := Lr10a) (Lz := (bb10, cel 5 (gcells ([u8 (f.base + 1)]))) :: [(b7, cel 34 (gcells f.id)), (b5, cel 38 (clCells cl.id (.slice Af cl.faces.length cf) cl.slots (.slice Am cl.methods.length cm))), (b1, cel 24 [.slice A m.length n])]) (xs := gcells (((((u8 m.length :: ((m.take g).map encC).flatten) ++ cl.id) ++ [u8 cl.faces.length]) ++ ((cl.faces.take k).map encF).flatten) ++ f.id)) (ys := gcells ([u8 (f.base + 1)])) (N := n9 + 16 + 1) rfl rfl sl40 el_u8 (by decide) (by decide) Try.underlying40 rfl hr10a rfl List.perm_middle.symm List.mem_cons_self rfl (gcells_one _) (by omega) rfl ?_
   intro A10 cp10 Lr10 hr10
   rw [← gcells_app] at hr10
   refine RL.drop (L' := Lr10 ++ [(b7, cel 34 (gcells f.id)), (b5, cel 38 (clCells cl.id (.slice Af cl.faces.length cf) cl.slots (.slice Am cl.methods.length cm))), (b1, cel 24 [.slice A m.length n])]) rfl (List.Sublist.append (List.Sublist.refl _) (List.sublist_cons_self _ _)) ?_
   refine RL.assign rfl ?_
   refine RL.nil ?_
   refine X.blk ?_
   refine X.region rfl ?_
   refine RL.move rfl ?_
   refine RL.add rfl rfl rfl (by omega) ?_
   refine RL.assign rfl ?_
   refine RL.nil ?_
   refine X.hyp ⟨rfl, k + 1, by omega, _, (List.Sublist.append (List.Sublist.refl _) (List.sublist_append_right [(b7, cel 34 (gcells f.id))] _)), A10, n9 + 16 + 1, cp10, Lr10, by omega, (by rw [flat_take hf, encF, ← List.append_assoc, ← List.append_assoc]; exact hr10), by omega, ⟨rfl, rfl, rfl, rfl, rfl, trivial⟩, rfl⟩
  ·replace hk : ¬ ((_ : Int) < _) := hk
   have hkk : k = cl.faces.length := by omega
   subst hkk
   rw [List.take_of_length_le (Nat.le_refl _)] at hr9
   refine RL.nil ?_
   refine X.cond_f rfl ?_
   refine X.exit rfl ?_
   refine X.seq ?_
   refine X.region rfl ?_
   refine RL.move rfl ?_
   refine RL.fieldAddr rfl fd38_2 rfl ?_
   refine RL.loadO rfl sc3 rfl (clCells_s hid) ?_
   refine RL.conv rfl Try.underlying3 Try.underlying5 rfl ?_
   refine RL.fieldAddr rfl fd38_3 rfl ?_
   refine RL.loadO rfl sc36 rfl (clCells_m hid) ?_
   refine RL.len rfl sl36 rfl ?_
   refine RL.conv rfl Try.underlying3 Try.underlying5 rfl ?_
   refine RL.bsC (vs := [(0, .int .u8 (u8 cl.slots)), (1, .int .u8 (u8 cl.methods.length))]) (cells := gcells [u8 cl.slots, u8 cl.methods.length]) rfl rfl sl40 (fun w => let ⟨v, a, b⟩ := zt5; ⟨v, a, b w⟩) rfl rfl rfl (by kernel_rfl) ?_
   intro bb11 hbb11
   refine RL.appB (Lr := Lr9) (Lz := (bb11, cel 5 (gcells ([u8 cl.slots, u8 cl.methods.length]))) :: [(b5, cel 38 (clCells cl.id (.slice Af cl.faces.length cf) cl.slots (.slice Am cl.methods.length cm))), (b1, cel 24 [.slice A m.length n])]) (xs := gcells ((((u8 m.length :: ((m.take g).map encC).flatten) ++ cl.id) ++ [u8 cl.faces.length]) ++ (cl.faces.map encF).flatten)) (ys := gcells ([u8 cl.slots, u8 cl.methods.length])) (N := n9 + 2) rfl rfl sl40 el_u8 (by decide) (by decide) Try.underlying40 rfl hr9 rfl List.perm_middle.symm List.mem_cons_self rfl (gcells_one _) (by omega) rfl ?_
   intro A11 cp11 Lr11 hr11
   rw [← gcells_app] at hr11
   refine RL.drop (L' := Lr11 ++ [(b5, cel 38 (clCells cl.id (.slice Af cl.faces.length cf) cl.slots (.slice Am cl.methods.length cm))), (b1, cel 24 [.slice A m.length n])]) rfl (List.Sublist.append (List.Sublist.refl _) (List.sublist_cons_self _ _)) ?_
   refine RL.assign rfl ?_
   refine RL.nil ?_
   refine X.seq ?_
   refine X.region rfl ?_
   refine RL.assign rfl ?_
   refine RL.nil ?_
   refine X.block ?_
   refine X.loop (γ := Nat) (fun k ρ L => ∃ A12 : Option Addr, ∃ n12 : Nat, ∃ cp12 : Nat, ∃ Lr12 : List Ent, (k ≤ cl.methods.length) ∧ (Row 5 1 (.slice A12 (n12) cp12) (gcells ((((((u8 m.length :: ((m.take g).map encC).flatten) ++ cl.id) ++ [u8 cl.faces.length]) ++ (cl.faces.map encF).flatten) ++ [u8 cl.slots, u8 cl.methods.length]) ++ ((cl.methods.take k).map encM).flatten)) Lr12) ∧ (n12 ≤ n6 + 17 + 17 * 16 + 2 + 193 * k) ∧ Has ρ [(1, .pointer (some ⟨b1, 0, none⟩)), (3, .slice A12 n12 cp12), (4, .int .i64 g), (5, .pointer (some ⟨b5, 0, none⟩)), (8, .int .i64 k)] ∧ L = Lr12 ++ [(b5, cel 38 (clCells cl.id (.slice Af cl.faces.length cf) cl.slots (.slice Am cl.methods.length cm))), (b1, cel 24 [.slice A m.length n])]) (fun k => cl.methods.length - k) (0) ⟨_, (by repeat (first | exact List.Sublist.refl _ | exact List.nil_sublist _ | (rw [List.append_nil]; exact List.Sublist.refl _) | exact List.sublist_append_left _ _ | exact (List.sublist_append_left _ _).trans (List.sublist_append_left _ _) | apply List.Sublist.cons_cons | apply List.Sublist.cons | refine List.Sublist.trans ?_ (List.sublist_append_right _ _))), A11, n9 + 2, cp11, Lr11, Nat.zero_le _, (by rw [show ((cl.methods.take 0).map encM).flatten = [] from rfl, List.append_nil]; exact hr11), by omega, ⟨rfl, rfl, rfl, rfl, rfl, trivial⟩, rfl⟩ ?_
   rintro k _ _ ⟨A12, n12, cp12, Lr12, hk1, hr12, hn12, hρ, rfl⟩
   obtain ⟨base, rfl⟩ := hρ.base
   clear hρ
   refine X.seq ?_
   refine X.seq ?_
   refine X.region rfl ?_
   refine RL.move rfl ?_
   refine RL.fieldAddr rfl fd38_3 rfl ?_
   refine RL.loadO rfl sc36 rfl (clCells_m hid) ?_
   refine RL.len rfl sl36 rfl ?_
   refine RL.cmp_s rfl rfl rfl rfl (fun hk => ?_) (fun hk => ?_)
   ·replace hk : (_ : Int) < _ := hk
    obtain ⟨l, hl⟩ : ∃ l, cl.methods[k]? = some l := ⟨_, List.getElem?_eq_getElem (by omega)⟩
    obtain ⟨Al, c2, hml, bl, ol, hAl0, hcl2⟩ := hms.2 k l hl
    have hAl : 0 < l.length → Al = some ⟨bl, ol, none⟩ := fun h => hAl0 (by rw [ecells_len Ins.len]; omega)
    have hll := hcv.l32 (List.mem_of_getElem? hl)
    refine RL.nil ?_
    refine X.cond_t rfl ?_
    refine X.skip ?_
    refine X.seq ?_
    refine X.block ?_
    refine X.seq ?_
    refine X.region rfl ?_
    refine RL.fieldAddr rfl fd38_3 rfl ?_
    refine RL.loadO rfl sc36 rfl (clCells_m hid) ?_
    refine RL.move rfl ?_
    refine RL.indexAddr rfl sl36 rfl rfl (hAm (by omega)) rfl (by omega) ?_
    refine RL.loadI rfl sc56 rfl (by rw [Nat.mul_one]; exact hcm k _ hml) (by simp) ?_
    refine RL.assign rfl ?_
    refine RL.nil ?_
    refine X.seq ?_
    refine X.region rfl ?_
    refine RL.move rfl ?_
    refine RL.move rfl ?_
    refine RL.len rfl sl56 rfl ?_
    refine RL.conv rfl Try.underlying3 Try.underlying5 rfl ?_
    refine RL.bs1U rfl rfl sl40 zt5 rfl ?_
    intro bb13 hbb13
    refine RL.appB (Lr := Lr12) (Lz := (bb13, cel 5 (gcells ([u8 l.length]))) :: [(b5, cel 38 (clCells cl.id (.slice Af cl.faces.length cf) cl.slots (.slice Am cl.methods.length cm))), (b1, cel 24 [.slice A m.length n])]) (xs := gcells ((((((u8 m.length :: ((m.take g).map encC).flatten) ++ cl.id) ++ [u8 cl.faces.length]) ++ (cl.faces.map encF).flatten) ++ [u8 cl.slots, u8 cl.methods.length]) ++ ((cl.methods.take k).map encM).flatten)) (ys := gcells ([u8 l.length])) (N := n12 + 1) rfl rfl sl40 el_u8 (by decide) (by decide) Try.underlying40 rfl hr12 rfl List.perm_middle.symm List.mem_cons_self rfl (gcells_one _) (by omega) rfl ?_
    intro A13 cp13 Lr13 hr13
    rw [← gcells_app] at hr13
    refine RL.drop (L' := Lr13 ++ [(b5, cel 38 (clCells cl.id (.slice Af cl.faces.length cf) cl.slots (.slice Am cl.methods.length cm))), (b1, cel 24 [.slice A m.length n])]) rfl (List.Sublist.append (List.Sublist.refl _) (List.sublist_cons_self _ _)) ?_
    refine RL.assign rfl ?_
    refine RL.nil ?_
    refine X.seq ?_
    refine X.region rfl ?_
    refine RL.assign rfl ?_
    refine RL.nil ?_
    refine X.block ?_
    refine X.loop (γ := Nat) (fun j ρ L => ∃ A15 : Option Addr, ∃ n15 : Nat, ∃ cp15 : Nat, ∃ Lr15 : List Ent, (j ≤ l.length) ∧ (Row 5 1 (.slice A15 (n15) cp15) (gcells ((((((((u8 m.length :: ((m.take g).map encC).flatten) ++ cl.id) ++ [u8 cl.faces.length]) ++ (cl.faces.map encF).flatten) ++ [u8 cl.slots, u8 cl.methods.length]) ++ ((cl.methods.take k).map encM).flatten) ++ [u8 l.length]) ++ ((l.take j).map encI).flatten)) Lr15) ∧ (n15 ≤ n12 + 1 + 6 * j) ∧ Has ρ [(1, .pointer (some ⟨b1, 0, none⟩)), (3, .slice A15 n15 cp15), (4, .int .i64 g), (5, .pointer (some ⟨b5, 0, none⟩)), (8, .int .i64 k), (9, .slice Al l.length c2), (10, .int .i64 j)] ∧ L = Lr15 ++ [(b5, cel 38 (clCells cl.id (.slice Af cl.faces.length cf) cl.slots (.slice Am cl.methods.length cm))), (b1, cel 24 [.slice A m.length n])]) (fun j => l.length - j) (0) ⟨_, (by repeat (first | exact List.Sublist.refl _ | exact List.nil_sublist _ | (rw [List.append_nil]; exact List.Sublist.refl _) | exact List.sublist_append_left _ _ | exact (List.sublist_append_left _ _).trans (List.sublist_append_left _ _) | apply List.Sublist.cons_cons | apply List.Sublist.cons | refine List.Sublist.trans ?_ (List.sublist_append_right _ _))), A13, n12 + 1, cp13, Lr13, Nat.zero_le _, (by rw [show ((l.take 0).map encI).flatten = [] from rfl, List.append_nil]; exact hr13), by omega, ⟨rfl, rfl, rfl, rfl, rfl, rfl, rfl, trivial⟩, rfl⟩ ?_
    rintro j _ _ ⟨A15, n15, cp15, Lr15, hj0, hr15, hn15, hρ, rfl⟩
    obtain ⟨base, rfl⟩ := hρ.base
    clear hρ
    refine X.seq ?_
    refine X.seq ?_
    refine X.region rfl ?_
    refine RL.move rfl ?_
    refine RL.move rfl ?_
    refine RL.len rfl sl56 rfl ?_
    refine RL.cmp_s rfl rfl rfl rfl (fun hj => ?_) (fun hj => ?_)
    ·replace hj : (_ : Int) < _ := hj
     obtain ⟨x, hx⟩ : ∃ x, l[j]? = some x := ⟨_, List.getElem?_eq_getElem (by omega)⟩
     have hxc := elem_at Ins.len hcl2 hx
     refine RL.nil ?_
     refine X.cond_t rfl ?_
     refine X.skip ?_
     refine X.seq ?_
     refine X.block ?_
     refine X.seq ?_
     refine X.set [.val (.slice A15 n15 cp15), .val (.slice Al l.length c2), .val (.int .i64 j), .val (.pointer (some ⟨bl, ol + j * 3, none⟩)), .val (.pointer (some ⟨bl, ol + j * 3 + 0, none⟩)), .val (.int .i64 x.op), .val (.int .u8 (u8 x.op)), .val (.slice Al l.length c2), .val (.int .i64 j), .val (.pointer (some ⟨bl, ol + j * 3, none⟩)), .val (.pointer (some ⟨bl, ol + j * 3 + 2, none⟩)), .val (.int .i64 x.b), .val (.int .u8 (u8 x.b)), .any, .any, .any] [[], [], [], [1, 2], [1, 2, 3], [1, 2, 3, 4], [1, 2, 3, 4, 5], [], [], [7, 8], [7, 8, 9], [7, 8, 9, 10], [7, 8, 9, 10, 11], [1, 2, 3, 4, 5, 6, 7, 8, 9, 10, 11, 12], [0, 1, 2, 3, 4, 5, 6, 7, 8, 9, 10, 11, 12, 13], [0, 1, 2, 3, 4, 5, 6, 7, 8, 9, 10, 11, 12, 13, 14]] (fun D ρ L => (D 13 = false ∧ D 14 = false ∧ D 15 = false ∧ True ∧ Has ρ [] ∧ L.Perm ((Lr15) ++ (([(b5, cel 38 (clCells cl.id (.slice Af cl.faces.length cf) cl.slots (.slice Am cl.methods.length cm)))]) ++ ([(b1, cel 24 [.slice A m.length n])])))) ∨ (D 13 = true ∧ D 14 = false ∧ D 15 = false ∧ True ∧ ∃ bb16 : Nat, Has ρ [(113, .slice (some ⟨bb16, 0, none⟩) 2 2)] ∧ L.Perm ((Lr15) ++ (([(b5, cel 38 (clCells cl.id (.slice Af cl.faces.length cf) cl.slots (.slice Am cl.methods.length cm)))]) ++ (([(b1, cel 24 [.slice A m.length n])]) ++ ([(bb16, cel 5 (gcells [u8 x.op, u8 x.b]))]))))) ∨ (D 13 = true ∧ D 14 = true ∧ D 15 = false ∧ True ∧ ∃ bb16 : Nat, ∃ A16 : Option Addr, ∃ cp16 : Nat, ∃ Lr16 : List Ent, (Row 5 1 (.slice A16 (n15 + 2) cp16) (gcells (((((((((u8 m.length :: ((m.take g).map encC).flatten) ++ cl.id) ++ [u8 cl.faces.length]) ++ (cl.faces.map encF).flatten) ++ [u8 cl.slots, u8 cl.methods.length]) ++ ((cl.methods.take k).map encM).flatten) ++ [u8 l.length]) ++ ((l.take j).map encI).flatten) ++ [u8 x.op, u8 x.b])) Lr16) ∧ Has ρ [(113, .slice (some ⟨bb16, 0, none⟩) 2 2), (114, .slice A16 (n15 + 2) cp16)] ∧ L.Perm ((Lr16) ++ (([(b5, cel 38 (clCells cl.id (.slice Af cl.faces.length cf) cl.slots (.slice Am cl.methods.length cm)))]) ++ (([(b1, cel 24 [.slice A m.length n])]) ++ ([(bb16, cel 5 (gcells [u8 x.op, u8 x.b]))]))))) ∨ (D 13 = true ∧ D 14 = true ∧ D 15 = true ∧ True ∧ ∃ bb16 : Nat, ∃ A16 : Option Addr, ∃ cp16 : Nat, ∃ Lr16 : List Ent, (Row 5 1 (.slice A16 (n15 + 2) cp16) (gcells (((((((((u8 m.length :: ((m.take g).map encC).flatten) ++ cl.id) ++ [u8 cl.faces.length]) ++ (cl.faces.map encF).flatten) ++ [u8 cl.slots, u8 cl.methods.length]) ++ ((cl.methods.take k).map encM).flatten) ++ [u8 l.length]) ++ ((l.take j).map encI).flatten) ++ [u8 x.op, u8 x.b])) Lr16) ∧ Has ρ [(3, .slice A16 (n15 + 2) cp16), (113, .slice (some ⟨bb16, 0, none⟩) 2 2), (114, .slice A16 (n15 + 2) cp16)] ∧ L.Perm ((Lr16) ++ (([(b5, cel 38 (clCells cl.id (.slice Af cl.faces.length cf) cl.slots (.slice Am cl.methods.length cm)))]) ++ (([(b1, cel 24 [.slice A m.length n])]) ++ ([(bb16, cel 5 (gcells [u8 x.op, u8 x.b]))])))))) rfl (by kernel_rfl) (by kernel_rfl) (by kernel_rfl) (by kernel_rfl) (fun D hD => .inl ⟨hD 13, hD 14, hD 15, trivial, trivial, (List.Perm.refl _)⟩) ⟨?_, ?_, ?_, ?_, ?_, ?_, ?_, ?_, ?_, ?_, ?_, ?_, ?_, ?_, ?_, ?_, trivial⟩ ?_
     ·intro ρ L D hS
      rcases hS.sp with ⟨e13, e14, e15, -, hρ, hL⟩ | ⟨e13, e14, e15, -, bb16, hρ, hL⟩ | ⟨e13, e14, e15, -, bb16, A16, cp16, Lr16, hp0, hρ, hL⟩ | ⟨e13, e14, e15, -, bb16, A16, cp16, Lr16, hp0, hρ, hL⟩
      ·have u3 : ρ 3 = .slice A15 n15 cp15 := hS.old 15 _ 3 rfl rfl ⟨⟨0, Ground.phase⟩, by simp, rfl, rfl⟩
       clear hS hρ
       obtain ⟨base, rfl⟩ := Has.base (ρ := ρ) (l := [(3, .slice A15 n15 cp15)]) ⟨u3, trivial⟩
       clear u3
       refine RL.perm (L' := ((Lr15) ++ (([(b5, cel 38 (clCells cl.id (.slice Af cl.faces.length cf) cl.slots (.slice Am cl.methods.length cm)))]) ++ ([(b1, cel 24 [.slice A m.length n])])))) rfl hL.symm ?_
       clear hL
       refine RL.move rfl ?_
       refine RL.nil ?_
       exact ⟨rfl, ⟨_, rfl, rfl⟩, .inl ⟨e13, e14, e15, trivial, trivial, List.Perm.refl _⟩⟩
      ·have u3 : ρ 3 = .slice A15 n15 cp15 := hS.old 15 _ 3 rfl rfl ⟨⟨0, Ground.phase⟩, by simp, rfl, rfl⟩
       have u113 : ρ 113 = .slice (some ⟨bb16, 0, none⟩) 2 2 := hρ.1
       clear hS hρ
       obtain ⟨base, rfl⟩ := Has.base (ρ := ρ) (l := [(3, .slice A15 n15 cp15), (113, .slice (some ⟨bb16, 0, none⟩) 2 2)]) ⟨u3, u113, trivial⟩
       clear u3 u113
       refine RL.perm (L' := ((Lr15) ++ (([(b5, cel 38 (clCells cl.id (.slice Af cl.faces.length cf) cl.slots (.slice Am cl.methods.length cm)))]) ++ (([(b1, cel 24 [.slice A m.length n])]) ++ ([(bb16, cel 5 (gcells [u8 x.op, u8 x.b]))]))))) rfl hL.symm ?_
       clear hL
       refine RL.move rfl ?_
       refine RL.nil ?_
       exact ⟨rfl, ⟨_, rfl, rfl⟩, .inr (.inl ⟨e13, e14, e15, trivial, bb16, ⟨rfl, trivial⟩, List.Perm.refl _⟩)⟩
      ·exact hS.hi 14 rfl (by kernel_rfl) e14
      ·exact hS.hi 14 rfl (by kernel_rfl) e14
     ·intro ρ L D hS
      rcases hS.sp with ⟨e13, e14, e15, -, hρ, hL⟩ | ⟨e13, e14, e15, -, bb16, hρ, hL⟩ | ⟨e13, e14, e15, -, bb16, A16, cp16, Lr16, hp0, hρ, hL⟩ | ⟨e13, e14, e15, -, bb16, A16, cp16, Lr16, hp0, hρ, hL⟩
      ·have u9 : ρ 9 = .slice Al l.length c2 := hS.fix 9 (by decide)
       clear hS hρ
       obtain ⟨base, rfl⟩ := Has.base (ρ := ρ) (l := [(9, .slice Al l.length c2)]) ⟨u9, trivial⟩
       clear u9
       refine RL.perm (L' := ((Lr15) ++ (([(b5, cel 38 (clCells cl.id (.slice Af cl.faces.length cf) cl.slots (.slice Am cl.methods.length cm)))]) ++ ([(b1, cel 24 [.slice A m.length n])])))) rfl hL.symm ?_
       clear hL
       refine RL.move rfl ?_
       refine RL.nil ?_
       exact ⟨rfl, ⟨_, rfl, rfl⟩, .inl ⟨e13, e14, e15, trivial, trivial, List.Perm.refl _⟩⟩
      ·exact hS.hi 13 rfl (by kernel_rfl) e13
      ·exact hS.hi 13 rfl (by kernel_rfl) e13
      ·exact hS.hi 13 rfl (by kernel_rfl) e13
     ·intro ρ L D hS
      rcases hS.sp with ⟨e13, e14, e15, -, hρ, hL⟩ | ⟨e13, e14, e15, -, bb16, hρ, hL⟩ | ⟨e13, e14, e15, -, bb16, A16, cp16, Lr16, hp0, hρ, hL⟩ | ⟨e13, e14, e15, -, bb16, A16, cp16, Lr16, hp0, hρ, hL⟩
      ·have u10 : ρ 10 = .int .i64 j := hS.fix 10 (by decide)
       clear hS hρ
       obtain ⟨base, rfl⟩ := Has.base (ρ := ρ) (l := [(10, .int .i64 j)]) ⟨u10, trivial⟩
       clear u10
       refine RL.perm (L' := ((Lr15) ++ (([(b5, cel 38 (clCells cl.id (.slice Af cl.faces.length cf) cl.slots (.slice Am cl.methods.length cm)))]) ++ ([(b1, cel 24 [.slice A m.length n])])))) rfl hL.symm ?_
       clear hL
       refine RL.move rfl ?_
       refine RL.nil ?_
       exact ⟨rfl, ⟨_, rfl, rfl⟩, .inl ⟨e13, e14, e15, trivial, trivial, List.Perm.refl _⟩⟩
      ·exact hS.hi 13 rfl (by kernel_rfl) e13
      ·exact hS.hi 13 rfl (by kernel_rfl) e13
      ·exact hS.hi 13 rfl (by kernel_rfl) e13
     ·intro ρ L D hS
      rcases hS.sp with ⟨e13, e14, e15, -, hρ, hL⟩ | ⟨e13, e14, e15, -, bb16, hρ, hL⟩ | ⟨e13, e14, e15, -, bb16, A16, cp16, Lr16, hp0, hρ, hL⟩ | ⟨e13, e14, e15, -, bb16, A16, cp16, Lr16, hp0, hρ, hL⟩
      ·have u101 : ρ 101 = .slice Al l.length c2 := hS.dep ⟨1, Ground.data⟩ (by simp) rfl _ _ rfl rfl
       have u102 : ρ 102 = .int .i64 j := hS.dep ⟨2, Ground.data⟩ (by simp) rfl _ _ rfl rfl
       clear hS hρ
       obtain ⟨base, rfl⟩ := Has.base (ρ := ρ) (l := [(101, .slice Al l.length c2), (102, .int .i64 j)]) ⟨u101, u102, trivial⟩
       clear u101 u102
       refine RL.perm (L' := ((Lr15) ++ (([(b5, cel 38 (clCells cl.id (.slice Af cl.faces.length cf) cl.slots (.slice Am cl.methods.length cm)))]) ++ ([(b1, cel 24 [.slice A m.length n])])))) rfl hL.symm ?_
       clear hL
       refine RL.indexAddr rfl sl56 rfl rfl (hAl (by omega)) rfl (by omega) ?_
       refine RL.nil ?_
       exact ⟨rfl, ⟨_, rfl, rfl⟩, .inl ⟨e13, e14, e15, trivial, trivial, List.Perm.refl _⟩⟩
      ·exact hS.hi 13 rfl (by kernel_rfl) e13
      ·exact hS.hi 13 rfl (by kernel_rfl) e13
      ·exact hS.hi 13 rfl (by kernel_rfl) e13
     ·intro ρ L D hS
      rcases hS.sp with ⟨e13, e14, e15, -, hρ, hL⟩ | ⟨e13, e14, e15, -, bb16, hρ, hL⟩ | ⟨e13, e14, e15, -, bb16, A16, cp16, Lr16, hp0, hρ, hL⟩ | ⟨e13, e14, e15, -, bb16, A16, cp16, Lr16, hp0, hρ, hL⟩
      ·have u103 : ρ 103 = .pointer (some ⟨bl, ol + j * 3, none⟩) := hS.dep ⟨3, Ground.data⟩ (by simp) rfl _ _ rfl rfl
       clear hS hρ
       obtain ⟨base, rfl⟩ := Has.base (ρ := ρ) (l := [(103, .pointer (some ⟨bl, ol + j * 3, none⟩))]) ⟨u103, trivial⟩
       clear u103
       refine RL.perm (L' := ((Lr15) ++ (([(b5, cel 38 (clCells cl.id (.slice Af cl.faces.length cf) cl.slots (.slice Am cl.methods.length cm)))]) ++ ([(b1, cel 24 [.slice A m.length n])])))) rfl hL.symm ?_
       clear hL
       refine RL.fieldAddr rfl fd61_0 rfl ?_
       refine RL.nil ?_
       exact ⟨rfl, ⟨_, rfl, rfl⟩, .inl ⟨e13, e14, e15, trivial, trivial, List.Perm.refl _⟩⟩
      ·exact hS.hi 13 rfl (by kernel_rfl) e13
      ·exact hS.hi 13 rfl (by kernel_rfl) e13
      ·exact hS.hi 13 rfl (by kernel_rfl) e13
     ·intro ρ L D hS
      rcases hS.sp with ⟨e13, e14, e15, -, hρ, hL⟩ | ⟨e13, e14, e15, -, bb16, hρ, hL⟩ | ⟨e13, e14, e15, -, bb16, A16, cp16, Lr16, hp0, hρ, hL⟩ | ⟨e13, e14, e15, -, bb16, A16, cp16, Lr16, hp0, hρ, hL⟩
      ·have u104 : ρ 104 = .pointer (some ⟨bl, ol + j * 3 + 0, none⟩) := hS.dep ⟨4, Ground.data⟩ (by simp) rfl _ _ rfl rfl
       clear hS hρ
       obtain ⟨base, rfl⟩ := Has.base (ρ := ρ) (l := [(104, .pointer (some ⟨bl, ol + j * 3 + 0, none⟩))]) ⟨u104, trivial⟩
       clear u104
       refine RL.perm (L' := ((Lr15) ++ (([(b5, cel 38 (clCells cl.id (.slice Af cl.faces.length cf) cl.slots (.slice Am cl.methods.length cm)))]) ++ ([(b1, cel 24 [.slice A m.length n])])))) rfl hL.symm ?_
       clear hL
       refine RL.loadI rfl sc3 rfl (CellsAt.at hxc rfl) (by simp) ?_
       refine RL.nil ?_
       exact ⟨rfl, ⟨_, rfl, rfl⟩, .inl ⟨e13, e14, e15, trivial, trivial, List.Perm.refl _⟩⟩
      ·exact hS.hi 13 rfl (by kernel_rfl) e13
      ·exact hS.hi 13 rfl (by kernel_rfl) e13
      ·exact hS.hi 13 rfl (by kernel_rfl) e13
     ·intro ρ L D hS
      rcases hS.sp with ⟨e13, e14, e15, -, hρ, hL⟩ | ⟨e13, e14, e15, -, bb16, hρ, hL⟩ | ⟨e13, e14, e15, -, bb16, A16, cp16, Lr16, hp0, hρ, hL⟩ | ⟨e13, e14, e15, -, bb16, A16, cp16, Lr16, hp0, hρ, hL⟩
      ·have u105 : ρ 105 = .int .i64 x.op := hS.dep ⟨5, Ground.data⟩ (by simp) rfl _ _ rfl rfl
       clear hS hρ
       obtain ⟨base, rfl⟩ := Has.base (ρ := ρ) (l := [(105, .int .i64 x.op)]) ⟨u105, trivial⟩
       clear u105
       refine RL.perm (L' := ((Lr15) ++ (([(b5, cel 38 (clCells cl.id (.slice Af cl.faces.length cf) cl.slots (.slice Am cl.methods.length cm)))]) ++ ([(b1, cel 24 [.slice A m.length n])])))) rfl hL.symm ?_
       clear hL
       refine RL.conv rfl Try.underlying3 Try.underlying5 rfl ?_
       refine RL.nil ?_
       exact ⟨rfl, ⟨_, rfl, rfl⟩, .inl ⟨e13, e14, e15, trivial, trivial, List.Perm.refl _⟩⟩
      ·exact hS.hi 13 rfl (by kernel_rfl) e13
      ·exact hS.hi 13 rfl (by kernel_rfl) e13
      ·exact hS.hi 13 rfl (by kernel_rfl) e13
     ·intro ρ L D hS
      rcases hS.sp with ⟨e13, e14, e15, -, hρ, hL⟩ | ⟨e13, e14, e15, -, bb16, hρ, hL⟩ | ⟨e13, e14, e15, -, bb16, A16, cp16, Lr16, hp0, hρ, hL⟩ | ⟨e13, e14, e15, -, bb16, A16, cp16, Lr16, hp0, hρ, hL⟩
      ·have u9 : ρ 9 = .slice Al l.length c2 := hS.fix 9 (by decide)
       clear hS hρ
       obtain ⟨base, rfl⟩ := Has.base (ρ := ρ) (l := [(9, .slice Al l.length c2)]) ⟨u9, trivial⟩
       clear u9
       refine RL.perm (L' := ((Lr15) ++ (([(b5, cel 38 (clCells cl.id (.slice Af cl.faces.length cf) cl.slots (.slice Am cl.methods.length cm)))]) ++ ([(b1, cel 24 [.slice A m.length n])])))) rfl hL.symm ?_
       clear hL
       refine RL.move rfl ?_
       refine RL.nil ?_
       exact ⟨rfl, ⟨_, rfl, rfl⟩, .inl ⟨e13, e14, e15, trivial, trivial, List.Perm.refl _⟩⟩
      ·exact hS.hi 13 rfl (by kernel_rfl) e13
      ·exact hS.hi 13 rfl (by kernel_rfl) e13
      ·exact hS.hi 13 rfl (by kernel_rfl) e13
     ·intro ρ L D hS
      rcases hS.sp with ⟨e13, e14, e15, -, hρ, hL⟩ | ⟨e13, e14, e15, -, bb16, hρ, hL⟩ | ⟨e13, e14, e15, -, bb16, A16, cp16, Lr16, hp0, hρ, hL⟩ | ⟨e13, e14, e15, -, bb16, A16, cp16, Lr16, hp0, hρ, hL⟩
      ·have u10 : ρ 10 = .int .i64 j := hS.fix 10 (by decide)
       clear hS hρ
       obtain ⟨base, rfl⟩ := Has.base (ρ := ρ) (l := [(10, .int .i64 j)]) ⟨u10, trivial⟩
       clear u10
       refine RL.perm (L' := ((Lr15) ++ (([(b5, cel 38 (clCells cl.id (.slice Af cl.faces.length cf) cl.slots (.slice Am cl.methods.length cm)))]) ++ ([(b1, cel 24 [.slice A m.length n])])))) rfl hL.symm ?_
       clear hL
       refine RL.move rfl ?_
       refine RL.nil ?_
       exact ⟨rfl, ⟨_, rfl, rfl⟩, .inl ⟨e13, e14, e15, trivial, trivial, List.Perm.refl _⟩⟩
      ·exact hS.hi 13 rfl (by kernel_rfl) e13
      ·exact hS.hi 13 rfl (by kernel_rfl) e13
      ·exact hS.hi 13 rfl (by kernel_rfl) e13
     ·intro ρ L D hS
      rcases hS.sp with ⟨e13, e14, e15, -, hρ, hL⟩ | ⟨e13, e14, e15, -, bb16, hρ, hL⟩ | ⟨e13, e14, e15, -, bb16, A16, cp16, Lr16, hp0, hρ, hL⟩ | ⟨e13, e14, e15, -, bb16, A16, cp16, Lr16, hp0, hρ, hL⟩
      ·have u107 : ρ 107 = .slice Al l.length c2 := hS.dep ⟨7, Ground.data⟩ (by simp) rfl _ _ rfl rfl
       have u108 : ρ 108 = .int .i64 j := hS.dep ⟨8, Ground.data⟩ (by simp) rfl _ _ rfl rfl
       clear hS hρ
       obtain ⟨base, rfl⟩ := Has.base (ρ := ρ) (l := [(107, .slice Al l.length c2), (108, .int .i64 j)]) ⟨u107, u108, trivial⟩
       clear u107 u108
       refine RL.perm (L' := ((Lr15) ++ (([(b5, cel 38 (clCells cl.id (.slice Af cl.faces.length cf) cl.slots (.slice Am cl.methods.length cm)))]) ++ ([(b1, cel 24 [.slice A m.length n])])))) rfl hL.symm ?_
       clear hL
       refine RL.indexAddr rfl sl56 rfl rfl (hAl (by omega)) rfl (by omega) ?_
       refine RL.nil ?_
       exact ⟨rfl, ⟨_, rfl, rfl⟩, .inl ⟨e13, e14, e15, trivial, trivial, List.Perm.refl _⟩⟩
      ·exact hS.hi 13 rfl (by kernel_rfl) e13
      ·exact hS.hi 13 rfl (by kernel_rfl) e13
      ·exact hS.hi 13 rfl (by kernel_rfl) e13
     ·intro ρ L D hS
      rcases hS.sp with ⟨e13, e14, e15, -, hρ, hL⟩ | ⟨e13, e14, e15, -, bb16, hρ, hL⟩ | ⟨e13, e14, e15, -, bb16, A16, cp16, Lr16, hp0, hρ, hL⟩ | ⟨e13, e14, e15, -, bb16, A16, cp16, Lr16, hp0, hρ, hL⟩
      ·have u109 : ρ 109 = .pointer (some ⟨bl, ol + j * 3, none⟩) := hS.dep ⟨9, Ground.data⟩ (by simp) rfl _ _ rfl rfl
       clear hS hρ
       obtain ⟨base, rfl⟩ := Has.base (ρ := ρ) (l := [(109, .pointer (some ⟨bl, ol + j * 3, none⟩))]) ⟨u109, trivial⟩
       clear u109
       refine RL.perm (L' := ((Lr15) ++ (([(b5, cel 38 (clCells cl.id (.slice Af cl.faces.length cf) cl.slots (.slice Am cl.methods.length cm)))]) ++ ([(b1, cel 24 [.slice A m.length n])])))) rfl hL.symm ?_
       clear hL
       refine RL.fieldAddr rfl fd61_2 rfl ?_
       refine RL.nil ?_
       exact ⟨rfl, ⟨_, rfl, rfl⟩, .inl ⟨e13, e14, e15, trivial, trivial, List.Perm.refl _⟩⟩
      ·exact hS.hi 13 rfl (by kernel_rfl) e13
      ·exact hS.hi 13 rfl (by kernel_rfl) e13
      ·exact hS.hi 13 rfl (by kernel_rfl) e13
     ·intro ρ L D hS
      rcases hS.sp with ⟨e13, e14, e15, -, hρ, hL⟩ | ⟨e13, e14, e15, -, bb16, hρ, hL⟩ | ⟨e13, e14, e15, -, bb16, A16, cp16, Lr16, hp0, hρ, hL⟩ | ⟨e13, e14, e15, -, bb16, A16, cp16, Lr16, hp0, hρ, hL⟩
      ·have u110 : ρ 110 = .pointer (some ⟨bl, ol + j * 3 + 2, none⟩) := hS.dep ⟨10, Ground.data⟩ (by simp) rfl _ _ rfl rfl
       clear hS hρ
       obtain ⟨base, rfl⟩ := Has.base (ρ := ρ) (l := [(110, .pointer (some ⟨bl, ol + j * 3 + 2, none⟩))]) ⟨u110, trivial⟩
       clear u110
       refine RL.perm (L' := ((Lr15) ++ (([(b5, cel 38 (clCells cl.id (.slice Af cl.faces.length cf) cl.slots (.slice Am cl.methods.length cm)))]) ++ ([(b1, cel 24 [.slice A m.length n])])))) rfl hL.symm ?_
       clear hL
       refine RL.loadI rfl sc3 rfl (CellsAt.at hxc rfl) (by simp) ?_
       refine RL.nil ?_
       exact ⟨rfl, ⟨_, rfl, rfl⟩, .inl ⟨e13, e14, e15, trivial, trivial, List.Perm.refl _⟩⟩
      ·exact hS.hi 13 rfl (by kernel_rfl) e13
      ·exact hS.hi 13 rfl (by kernel_rfl) e13
      ·exact hS.hi 13 rfl (by kernel_rfl) e13
     ·intro ρ L D hS
      rcases hS.sp with ⟨e13, e14, e15, -, hρ, hL⟩ | ⟨e13, e14, e15, -, bb16, hρ, hL⟩ | ⟨e13, e14, e15, -, bb16, A16, cp16, Lr16, hp0, hρ, hL⟩ | ⟨e13, e14, e15, -, bb16, A16, cp16, Lr16, hp0, hρ, hL⟩
      ·have u111 : ρ 111 = .int .i64 x.b := hS.dep ⟨11, Ground.data⟩ (by simp) rfl _ _ rfl rfl
       clear hS hρ
       obtain ⟨base, rfl⟩ := Has.base (ρ := ρ) (l := [(111, .int .i64 x.b)]) ⟨u111, trivial⟩
       clear u111
       refine RL.perm (L' := ((Lr15) ++ (([(b5, cel 38 (clCells cl.id (.slice Af cl.faces.length cf) cl.slots (.slice Am cl.methods.length cm)))]) ++ ([(b1, cel 24 [.slice A m.length n])])))) rfl hL.symm ?_
       clear hL
       refine RL.conv rfl Try.underlying3 Try.underlying5 rfl ?_
       refine RL.nil ?_
       exact ⟨rfl, ⟨_, rfl, rfl⟩, .inl ⟨e13, e14, e15, trivial, trivial, List.Perm.refl _⟩⟩
      ·exact hS.hi 13 rfl (by kernel_rfl) e13
      ·exact hS.hi 13 rfl (by kernel_rfl) e13
      ·exact hS.hi 13 rfl (by kernel_rfl) e13
     ·intro ρ L D hS
      rcases hS.sp with ⟨e13, e14, e15, -, hρ, hL⟩ | ⟨e13, e14, e15, -, bb16, hρ, hL⟩ | ⟨e13, e14, e15, -, bb16, A16, cp16, Lr16, hp0, hρ, hL⟩ | ⟨e13, e14, e15, -, bb16, A16, cp16, Lr16, hp0, hρ, hL⟩
      ·have u106 : ρ 106 = .int .u8 (u8 x.op) := hS.dep ⟨6, Ground.data⟩ (by simp) rfl _ _ rfl rfl
       have u112 : ρ 112 = .int .u8 (u8 x.b) := hS.dep ⟨12, Ground.data⟩ (by simp) rfl _ _ rfl rfl
       clear hS hρ
       obtain ⟨base, rfl⟩ := Has.base (ρ := ρ) (l := [(106, .int .u8 (u8 x.op)), (112, .int .u8 (u8 x.b))]) ⟨u106, u112, trivial⟩
       clear u106 u112
       refine RL.perm (L' := ((Lr15) ++ (([(b5, cel 38 (clCells cl.id (.slice Af cl.faces.length cf) cl.slots (.slice Am cl.methods.length cm)))]) ++ ([(b1, cel 24 [.slice A m.length n])])))) rfl hL.symm ?_
       clear hL
       refine RL.bsC (vs := [(0, .int .u8 (u8 x.op)), (1, .int .u8 (u8 x.b))]) (cells := gcells [u8 x.op, u8 x.b]) rfl rfl sl40 (fun w => let ⟨v, a, b⟩ := zt5; ⟨v, a, b w⟩) rfl rfl rfl (by kernel_rfl) ?_
       intro bb16 hbb16
       refine RL.nil ?_
       exact ⟨rfl, ⟨_, rfl, trivial⟩, .inr (.inl ⟨rfl, e14, e15, trivial, bb16, ⟨rfl, trivial⟩, (by classical exact List.perm_iff_count.2 (fun z => by simp only [List.count_append, List.count_cons, List.count_nil, List.cons_append, List.nil_append, List.append_nil, List.set_cons_zero, List.set_cons_succ] <;> omega))⟩)⟩
      ·exact hS.me e13
      ·exact hS.hi 14 rfl (by kernel_rfl) e14
      ·exact hS.hi 14 rfl (by kernel_rfl) e14
     ·intro ρ L D hS
      rcases hS.sp with ⟨e13, e14, e15, -, hρ, hL⟩ | ⟨e13, e14, e15, -, bb16, hρ, hL⟩ | ⟨e13, e14, e15, -, bb16, A16, cp16, Lr16, hp0, hρ, hL⟩ | ⟨e13, e14, e15, -, bb16, A16, cp16, Lr16, hp0, hρ, hL⟩
      ·exact hS.lo 13 (by kernel_rfl) e13
      ·have u100 : ρ 100 = .slice A15 n15 cp15 := hS.dep ⟨0, Ground.data⟩ (by simp) rfl _ _ rfl rfl
       have u113 : ρ 113 = .slice (some ⟨bb16, 0, none⟩) 2 2 := hρ.1
       clear hS hρ
       obtain ⟨base, rfl⟩ := Has.base (ρ := ρ) (l := [(100, .slice A15 n15 cp15), (113, .slice (some ⟨bb16, 0, none⟩) 2 2)]) ⟨u100, u113, trivial⟩
       clear u100 u113
       refine RL.perm (L' := ((Lr15) ++ (([(b5, cel 38 (clCells cl.id (.slice Af cl.faces.length cf) cl.slots (.slice Am cl.methods.length cm)))]) ++ (([(b1, cel 24 [.slice A m.length n])]) ++ ([(bb16, cel 5 (gcells [u8 x.op, u8 x.b]))]))))) rfl hL.symm ?_
       clear hL
       refine RL.appB (Lr := Lr15) (xs := gcells ((((((((u8 m.length :: ((m.take g).map encC).flatten) ++ cl.id) ++ [u8 cl.faces.length]) ++ (cl.faces.map encF).flatten) ++ [u8 cl.slots, u8 cl.methods.length]) ++ ((cl.methods.take k).map encM).flatten) ++ [u8 l.length]) ++ ((l.take j).map encI).flatten)) (ys := gcells [u8 x.op, u8 x.b]) (N := n15 + 2) rfl rfl sl40 el_u8 (by decide) (by decide) Try.underlying40 rfl hr15 rfl (List.Perm.refl _) (by simp) rfl (gcells_one _) (by omega) rfl ?_
       intro A16 cp16 Lr16 hr16
       rw [← gcells_app] at hr16
       refine RL.nil ?_
       exact ⟨rfl, ⟨_, rfl, trivial⟩, .inr (.inr (.inl ⟨e13, rfl, e15, trivial, bb16, A16, cp16, Lr16, hr16, ⟨rfl, rfl, trivial⟩, (by classical exact List.perm_iff_count.2 (fun z => by simp only [List.count_append, List.count_cons, List.count_nil, List.cons_append, List.nil_append, List.append_nil, List.set_cons_zero, List.set_cons_succ] <;> omega))⟩))⟩
      ·exact hS.me e14
      ·exact hS.hi 15 rfl (by kernel_rfl) e15
     ·intro ρ L D hS
      rcases hS.sp with ⟨e13, e14, e15, -, hρ, hL⟩ | ⟨e13, e14, e15, -, bb16, hρ, hL⟩ | ⟨e13, e14, e15, -, bb16, A16, cp16, Lr16, hp0, hρ, hL⟩ | ⟨e13, e14, e15, -, bb16, A16, cp16, Lr16, hp0, hρ, hL⟩
      ·exact hS.lo 13 (by kernel_rfl) e13
      ·exact hS.lo 14 (by kernel_rfl) e14
      ·have u113 : ρ 113 = .slice (some ⟨bb16, 0, none⟩) 2 2 := hρ.1
       have u114 : ρ 114 = .slice A16 (n15 + 2) cp16 := hρ.2.1
       clear hS hρ
       obtain ⟨base, rfl⟩ := Has.base (ρ := ρ) (l := [(113, .slice (some ⟨bb16, 0, none⟩) 2 2), (114, .slice A16 (n15 + 2) cp16)]) ⟨u113, u114, trivial⟩
       clear u113 u114
       refine RL.perm (L' := ((Lr16) ++ (([(b5, cel 38 (clCells cl.id (.slice Af cl.faces.length cf) cl.slots (.slice Am cl.methods.length cm)))]) ++ (([(b1, cel 24 [.slice A m.length n])]) ++ ([(bb16, cel 5 (gcells [u8 x.op, u8 x.b]))]))))) rfl hL.symm ?_
       clear hL
       refine RL.assign rfl ?_
       refine RL.nil ?_
       exact ⟨rfl, ⟨_, rfl, trivial⟩, .inr (.inr (.inr (⟨e13, e14, rfl, trivial, bb16, A16, cp16, Lr16, hp0, ⟨rfl, rfl, rfl, trivial⟩, (by classical exact List.perm_iff_count.2 (fun z => by simp only [List.count_append, List.count_cons, List.count_nil, List.cons_append, List.nil_append, List.append_nil, List.set_cons_zero, List.set_cons_succ] <;> omega))⟩)))⟩
      ·exact hS.me e15
     ·intro ρ L D hD hT hfix hsp
      rcases hsp with ⟨e13, e14, e15, -, hρ, hL⟩ | ⟨e13, e14, e15, -, bb16, hρ, hL⟩ | ⟨e13, e14, e15, -, bb16, A16, cp16, Lr16, hp0, hρ, hL⟩ | ⟨e13, e14, e15, -, bb16, A16, cp16, Lr16, hp0, hρ, hL⟩
      ·exact done_no hD 13 rfl e13
      ·exact done_no hD 14 rfl e14
      ·exact done_no hD 15 rfl e15
      ·have u1 : ρ 1 = .pointer (some ⟨b1, 0, none⟩) := hfix 1 (by decide)
       have u3 : ρ 3 = .slice A16 (n15 + 2) cp16 := hρ.1
       have u4 : ρ 4 = .int .i64 g := hfix 4 (by decide)
       have u5 : ρ 5 = .pointer (some ⟨b5, 0, none⟩) := hfix 5 (by decide)
       have u8 : ρ 8 = .int .i64 k := hfix 8 (by decide)
       have u9 : ρ 9 = .slice Al l.length c2 := hfix 9 (by decide)
       have u10 : ρ 10 = .int .i64 j := hfix 10 (by decide)
       have u113 : ρ 113 = .slice (some ⟨bb16, 0, none⟩) 2 2 := hρ.2.1
       have u114 : ρ 114 = .slice A16 (n15 + 2) cp16 := hρ.2.2.1
       clear hT hfix hD hρ
       obtain ⟨base, rfl⟩ := Has.base (ρ := ρ) (l := [(1, .pointer (some ⟨b1, 0, none⟩)), (3, .slice A16 (n15 + 2) cp16), (4, .int .i64 g), (5, .pointer (some ⟨b5, 0, none⟩)), (8, .int .i64 k), (9, .slice Al l.length c2), (10, .int .i64 j), (113, .slice (some ⟨bb16, 0, none⟩) 2 2), (114, .slice A16 (n15 + 2) cp16)]) ⟨u1, u3, u4, u5, u8, u9, u10, u113, u114, trivial⟩
       clear u1 u3 u4 u5 u8 u9 u10 u113 u114
       refine ⟨_, hL.symm, ((Lr16) ++ (([(b5, cel 38 (clCells cl.id (.slice Af cl.faces.length cf) cl.slots (.slice Am cl.methods.length cm)))]) ++ ([(b1, cel 24 [.slice A m.length n])]))), List.Sublist.append (List.Sublist.refl _) (List.Sublist.append (List.Sublist.refl _) (List.sublist_append_left _ _)), ?_⟩
       have hr16 := hp0
       refine X.region rfl ?_
       refine RL.move rfl ?_
       refine RL.move rfl ?_
       refine RL.move rfl ?_
       refine RL.indexAddr rfl sl56 rfl rfl (hAl (by omega)) rfl (by omega) ?_
       refine RL.fieldAddr rfl fd61_1 rfl ?_
       refine RL.loadI rfl sc3 rfl (CellsAt.at hxc rfl) (by simp) ?_
       refine RL.conv rfl Try.underlying3 Try.underlying73 rfl ?_
       refine RL.convE rfl Try.underlying73 Try.underlying75 rfl (u32_64 x.a) ?_
       refine RL.fn0 rfl rfl rfl en33 (fun w hw => (f_rnum (IntKind.u32.wrap x.a) (u32_nonneg _) (u32_lt _) w)) rfl ?_
       rintro _ _ ⟨A23, cp23, Lr23, rfl, hr23, hs23⟩
       refine RL.drop (L' := Lr23 ++ (Lr16 ++ [(b5, cel 38 (clCells cl.id (.slice Af cl.faces.length cf) cl.slots (.slice Am cl.methods.length cm))), (b1, cel 24 [.slice A m.length n])])) rfl (hs23.append (List.Sublist.refl _)) ?_
       refine RL.perm (L' := Lr16 ++ ([(b5, cel 38 (clCells cl.id (.slice Af cl.faces.length cf) cl.slots (.slice Am cl.methods.length cm))), (b1, cel 24 [.slice A m.length n])] ++ Lr23)) rfl (by classical exact List.perm_iff_count.2 (fun z => by simp only [List.count_append, List.count_cons, List.count_nil, List.cons_append, List.nil_append, List.set_cons_zero, List.set_cons_succ] <;> omega)) ?_
       refine RL.appG (Lr := Lr16) (Lz := [(b5, cel 38 (clCells cl.id (.slice Af cl.faces.length cf) cl.slots (.slice Am cl.methods.length cm))), (b1, cel 24 [.slice A m.length n])] ++ Lr23) (xs := gcells (((((((((u8 m.length :: ((m.take g).map encC).flatten) ++ cl.id) ++ [u8 cl.faces.length]) ++ (cl.faces.map encF).flatten) ++ [u8 cl.slots, u8 cl.methods.length]) ++ ((cl.methods.take k).map encM).flatten) ++ [u8 l.length]) ++ ((l.take j).map encI).flatten) ++ [u8 x.op, u8 x.b])) (ys := gcells (numX (IntKind.u32.wrap x.a) 4)) (N := n15 + 2 + 4) rfl rfl sl40 el_u8 (by decide) (by decide) Try.underlying40 (List.Perm.refl _) rfl hr16 rfl (by rw [gcells_len, numX_len]) (gcells_one _) (fun w2 hw2 => by
         obtain ⟨b, o, e1, e2⟩ := row_rd hr23 hw2 (fun p hp => by simp [hp])
         exact .inr ⟨b, o, e1 (by rw [gcells_len, numX_len]; omega), e2⟩) (by omega) rfl ?_
       intro A17 cp17 Lr17 hr17
       rw [← gcells_app] at hr17
       refine RL.assign rfl ?_
       refine RL.nil ?_
       refine X.blk ?_
       refine X.region rfl ?_
       refine RL.move rfl ?_
       refine RL.add rfl rfl rfl (by omega) ?_
       refine RL.assign rfl ?_
       refine RL.nil ?_
       refine X.hyp ⟨rfl, j + 1, by omega, _, (List.Sublist.append (List.Sublist.refl _) (List.sublist_append_left _ _)), A17, n15 + 2 + 4, cp17, Lr17, by omega, (by rw [flat_take hx, encI, ← List.append_assoc, ← List.append_assoc]; exact hr17), by omega, ⟨rfl, rfl, rfl, rfl, rfl, rfl, rfl, trivial⟩, rfl⟩
    ·replace hj : ¬ ((_ : Int) < _) := hj
     have hjj : j = l.length := by omega
     subst hjj
     rw [List.take_of_length_le (Nat.le_refl _)] at hr15
     have e15 : (((((u8 m.length :: ((m.take g).map encC).flatten) ++ cl.id) ++ [u8 cl.faces.length]) ++ (cl.faces.map encF).flatten) ++ [u8 cl.slots, u8 cl.methods.length]) ++ ((cl.methods.take (k + 1)).map encM).flatten = (((((((u8 m.length :: ((m.take g).map encC).flatten) ++ cl.id) ++ [u8 cl.faces.length]) ++ (cl.faces.map encF).flatten) ++ [u8 cl.slots, u8 cl.methods.length]) ++ ((cl.methods.take k).map encM).flatten) ++ [u8 l.length]) ++ (l.map encI).flatten := by rw [flat_take hl, encM]; simp
     refine RL.nil ?_
     refine X.cond_f rfl ?_
     refine X.exit rfl ?_
     refine X.blk ?_
     refine X.region rfl ?_
     refine RL.move rfl ?_
     refine RL.add rfl rfl rfl (by omega) ?_
     refine RL.assign rfl ?_
     refine RL.nil ?_
     refine X.hyp ⟨rfl, k + 1, by omega, _, (List.Sublist.refl _), A15, n15, cp15, Lr15, by omega, (by rw [e15]; exact hr15), by omega, ⟨rfl, rfl, rfl, rfl, rfl, trivial⟩, rfl⟩
   ·replace hk : ¬ ((_ : Int) < _) := hk
    have hkk2 : k = cl.methods.length := by omega
    subst hkk2
    rw [List.take_of_length_le (Nat.le_refl _)] at hr12
    have e12 : u8 (m.length : Int) :: ((m.take (g + 1)).map encC).flatten = (((((u8 m.length :: ((m.take g).map encC).flatten) ++ cl.id) ++ [u8 cl.faces.length]) ++ (cl.faces.map encF).flatten) ++ [u8 cl.slots, u8 cl.methods.length]) ++ (cl.methods.map encM).flatten := by rw [flat_take hcl, encC]; simp
    refine RL.nil ?_
    refine X.cond_f rfl ?_
    refine X.exit rfl ?_
    refine X.blk ?_
    refine X.region rfl ?_
    refine RL.move rfl ?_
    refine RL.add rfl rfl rfl (by omega) ?_
    refine RL.assign rfl ?_
    refine RL.nil ?_
    refine X.hyp ⟨rfl, g + 1, by omega, _, (List.Sublist.append (List.Sublist.refl _) (List.sublist_append_right [(b5, cel 38 (clCells cl.id (.slice Af cl.faces.length cf) cl.slots (.slice Am cl.methods.length cm)))] _)), A12, n12, cp12, Lr12, by omega, (by rw [e12]; exact hr12), by omega, ⟨rfl, rfl, rfl, trivial⟩, rfl⟩
 ·replace hg : ¬ ((_ : Int) < _) := hg
  have hgg : g = m.length := by omega
  subst hgg
  rw [List.take_of_length_le (Nat.le_refl _)] at hr6
  refine RL.nil ?_
  refine X.cond_f rfl ?_
  refine X.exit rfl ?_
  refine X.seq ?_
  refine X.region rfl ?_
  refine RL.move rfl ?_
  refine RL.assign rfl ?_
  refine RL.nil ?_
  refine X.ret ?_
  refine ret1 rfl ?_
  exact ⟨A6, n6, cp6, Lr6, rfl, hr6, List.sublist_append_left _ _, by omega⟩
end Go.Proofs.Ytdnnnbjmjjdcfaa

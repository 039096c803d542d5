/- All faces that are made of one of a name: the program's walk. -/
import Derived.Test.YtjaibkfmkhfjfaaA7
set_option linter.unusedVariables false
set_option linter.unusedSimpArgs false
namespace Go.Proofs.Ytjaibkfmkhfjfaa
open Go.RowKit
attribute [local irreducible] X RL W Ctr
theorem f_under (fs : List Face) (hok : ∀ f ∈ fs, FaceOk f) (hlen : fs.length ≤ 60) (A : Option Addr) (c : Nat) (w : World) (hrd : Rd w A (fcells fs)) (id : List Int) (hid : id.length = 16) :
    Ctr Try.prog 23 [.slice A fs.length c, .agg (gcells id).toArray] w [] fun v L => SRow v (underN fs id fs.length) L := by
  have hrd1 := hrd
  have hlen : fs.length ≤ 1000 := by omega
  obtain ⟨bb, oo, hA0, hc⟩ := hrd
  have hA : 0 < fs.length → A = some ⟨bb, oo, none⟩ := fun h => hA0 (by rw [fcells_len hok]; omega)
  have hbl : 0 < fs.length → bb < w.heap.size := fun h => Rd.lt hc (by rw [fcells_len hok]; omega)
  refine Ctr.intro0 (n := 30) Try.func23 rfl Try.ntmps23 (Nat.le_of_ble_eq_true rfl) ?_
  refine X.seq ?_
  refine X.region rfl ?_
  refine RL.boxS rfl rfl rfl ?_
  intro k2 hk2
  dsimp only at hk2
  refine RL.boxA rfl rfl rfl ?_
  intro k3 hk3
  dsimp only at hk3
  refine RL.assign rfl ?_
  refine RL.nil ?_
  refine X.scope rfl ?_
  refine X.seq ?_
  refine X.region rfl ?_
  refine RL.alloc rfl rfl zt32 ?_
  intro k5 hk5
  dsimp only at hk5
  refine RL.nil ?_
  refine X.seq ?_
  refine X.label ?_
  refine X.seq ?_
  refine X.seq ?_
  refine X.region rfl ?_
  refine RL.loadO rfl sc22 rfl rfl ?_
  refine RL.len rfl sl22 rfl ?_
  refine RL.move rfl ?_
  refine RL.nil ?_
  refine X.block ?_
  refine X.loopD (γ := Nat) (fun g ρ ds L => ∃ (Ms : List Nat) (A2 : Option Addr) (cp : Nat) (Lr : List Ent), Row 3 1 (.slice A2 (underN fs id g).length cp) (ints (underN fs id g)) Lr ∧ g ≤ fs.length ∧ Has ρ [(2, .pointer (some ⟨k2, 0, none⟩)), (3, .pointer (some ⟨k3, 0, none⟩)), (5, .pointer (some ⟨k5, 0, none⟩)), (9, .int .i64 fs.length), (10, .int .i64 g)] ∧ ds = marks Ms ∧ L = markE Ms ++ (Lr ++ [(k5, cel 32 [.slice A2 (underN fs id g).length cp]), (k3, cel 28 (gcells id)), (k2, cel 22 [.slice A fs.length c])])) (fun g => fs.length - g) 0 ⟨_, List.Perm.refl _, _, List.Sublist.refl _, [], none, 0, [], Row.nil, Nat.zero_le _, ⟨rfl, rfl, rfl, rfl, rfl, trivial⟩, rfl, rfl⟩ ?_
  rintro g _ _ _ ⟨Ms, A2, cp, Lr, hrow, hg, hρ, rfl, rfl⟩
  obtain ⟨base, rfl⟩ := hρ.base
  clear hρ
  refine X.seq ?_
  refine X.region rfl ?_
  refine RL.cmp_s rfl rfl rfl rfl (fun h => ?_) (fun h => ?_)
  · replace h : (_ : Int) < _ := h
    have hul := underN_len fs id g
    refine RL.nil ?_
    refine X.seq ?_
    refine X.cond_t rfl ?_
    refine X.skip ?_
    refine X.seq ?_
    refine X.block ?_
    refine X.seq ?_
    refine X.region rfl ?_
    refine RL.move rfl ?_
    refine RL.alloc rfl rfl zt3 ?_
    intro k6 hk6
    dsimp only at hk6
    refine RL.stI rfl rfl sc3.size rfl rfl (by first | exact Nat.zero_lt_one | decide | simp) ?_
    refine RL.nil ?_
    refine X.seq ?_
    refine X.region rfl ?_
    refine RL.loadO rfl sc22 rfl rfl ?_
    refine RL.loadO rfl sc3 rfl rfl ?_
    refine RL.fn0 rfl rfl rfl en26 (fun w hw => (f_line A fs.length c (g : Int) w)) rfl ?_
    rintro _ _ ⟨d2, d1, rfl, rfl⟩
    refine RL.nil ?_
    refine X.block ?_
    refine X.fact (p := d2 ∉ keys (Lr ++ [(k5, cel 32 [.slice A2 (underN fs id g).length cp])]) ∧ d1 ∉ keys (Lr ++ [(k5, cel 32 [.slice A2 (underN fs id g).length cp])]) ∧ (0 < fs.length → bb ∉ keys (Lr ++ [(k5, cel 32 [.slice A2 (underN fs id g).length cp])]))) (fun w2 h => ?_) (fun hnd => ?_)
    · have h3 := St.perm (L' := (Lr ++ [(k5, cel 32 [.slice A2 (underN fs id g).length cp])]) ++ ([(d2, cel 3 [.int .i64 (g : Int)]), (d1, cel 22 [.slice A fs.length c]), (k6, cel 3 [.int .i64 (g : Int)])] ++ (markE Ms ++ [(k3, cel 28 (gcells id)), (k2, cel 22 [.slice A fs.length c])]))) h (by classical exact List.perm_iff_count.2 (fun z => by simp only [List.count_append, List.count_cons, List.count_nil, List.cons_append, List.nil_append, List.set_cons_zero, List.set_cons_succ]; omega))
      exact ⟨h3.not_left (p := (d2, cel 3 [.int .i64 (g : Int)])) (by simp), h3.not_left (p := (d1, cel 22 [.slice A fs.length c])) (by simp), fun h0 => h3.low_not (hbl h0) (fun p hp => List.mem_append_left _ hp)⟩
    refine X.rangeFunc (encs := (fun x : Int => [Value.int .i64 x])) (LB := (Lr ++ [(k5, cel 32 [.slice A2 (underN fs id g).length cp])])) (Lr := ([(d2, cel 3 [.int .i64 (g : Int)]), (d1, cel 22 [.slice A fs.length c]), (k6, cel 3 [.int .i64 (g : Int)])] ++ (markE Ms ++ [(k3, cel 28 (gcells id)), (k2, cel 22 [.slice A fs.length c])]))) (Av := avF fs d2 d1 bb) (unI fs id (Lr ++ [(k5, cel 32 [.slice A2 (underN fs id g).length cp])])) (unX fs id k5 g) (fun pre x ρ L => Has ρ [(2, .pointer (some ⟨k2, 0, none⟩)), (3, .pointer (some ⟨k3, 0, none⟩)), (5, .pointer (some ⟨k5, 0, none⟩)), (6, .pointer (some ⟨k6, 0, none⟩)), (7, .int .i64 x)] ∧ unI fs id (Lr ++ [(k5, cel 32 [.slice A2 (underN fs id g).length cp])]) pre L) rfl rfl en27 (by classical exact List.perm_iff_count.2 (fun z => by simp only [List.count_append, List.count_cons, List.count_nil, List.cons_append, List.nil_append, List.set_cons_zero, List.set_cons_succ]; omega)) (fun w3 Lm hst3 => f_iter fs hok hlen A c (g : Int) d1 d2 bb oo (avF fs d2 d1 bb) w3 (hst3.own (d2, _) (by simp)) (hst3.own (d1, _) (by simp)) hA (fc_st hst3 hc (fun _ => by simp)) avF2 avF1 avFb) (avF_all ⟨hnd.1, .inr (by simp [keys])⟩ ⟨hnd.2.1, .inr (by simp [keys])⟩ (fun h => ⟨hnd.2.2 h, .inl (hbl h)⟩)) (fun _ => rfl) (⟨rfl, fun y h => by cases h⟩) ?_ ?_ ?_ ?_
    · rintro pre x rest LB2 w2 l hF hI _
      refine X.region rfl ?_
      refine RL.assign rfl ?_
      refine RL.nil ?_
      exact X.hyp ⟨rfl, ⟨rfl, rfl, rfl, rfl, rfl, trivial⟩, hI⟩
    · rintro pre x rest ρ2 _ w2 l hF ⟨hρ, rfl, hno⟩ ⟨Lo, hst⟩ hl hrec
      obtain ⟨base2, rfl⟩ := hρ.base
      clear hρ
      have e2 := hst.cellB (b := k2) (t := 22) (v := .slice A fs.length c) (by simp)
      have n2 := hst.not_left (p := (k2, cel 22 [.slice A fs.length c])) (by simp)
      have e6 := hst.cellB (b := k6) (t := 3) (v := .int .i64 (g : Int)) (by simp)
      have n6 := hst.not_left (p := (k6, cel 3 [.int .i64 (g : Int)])) (by simp)
      have e3 : CellsAt w2 k3 0 (gcells id) := by simpa using hst.cellsO (b := k3) (t := 28) (l := gcells id) (fr := (0, 0)) (by simp) 0
      have n3 := hst.not_left (p := (k3, cel 28 (gcells id))) (by simp)
      have hc2 := fc_st hst hc (fun _ => by simp)
      have hxm := lineP_mem (mem_pre hF)
      obtain ⟨f, hf⟩ : ∃ f, fs[x.toNat]? = some f := ⟨_, List.getElem?_eq_getElem (by omega)⟩
      have hfo := hok f (List.mem_of_getElem? hf)
      have nb := hnd.2.2 (by omega)
      have hid2 := idAt_of (id := id) hf
      refine X.block ?_
      refine X.seq ?_
      refine X.anyQ [.val (.slice A fs.length c), .val (.int .i64 x), .val (.pointer (some ⟨bb, oo + x.toNat * 17, none⟩)), .val (.pointer (some ⟨bb, oo + x.toNat * 17 + 0, none⟩)), .val (.agg (gcells f.id).toArray), .val (.agg (gcells id).toArray), .val (.bool (decide (f.id = id)))] rfl (by kernel_rfl) (by kernel_rfl) (by kernel_rfl) ⟨?_, ?_, ?_, ?_, ?_, ?_, ?_, trivial⟩ ?_
      · intro ρ L hF hfix hold hL
        have u2 : ρ 2 = .pointer (some ⟨k2, 0, none⟩) := hfix 2 (by decide)
        obtain ⟨base, rfl⟩ := Has.base (ρ := ρ) (l := [(2, .pointer (some ⟨k2, 0, none⟩))]) ⟨u2, trivial⟩
        refine RL.loadI rfl sc22 rfl e2 n2 ?_
        refine RL.nil ?_
        exact ⟨rfl, ⟨_, rfl, rfl⟩, fun p hp => hp⟩
      · intro ρ L hF hfix hold hL
        have u7 : ρ 7 = .int .i64 x := hfix 7 (by decide)
        obtain ⟨base, rfl⟩ := Has.base (ρ := ρ) (l := [(7, .int .i64 x)]) ⟨u7, trivial⟩
        refine RL.move rfl ?_
        refine RL.nil ?_
        exact ⟨rfl, ⟨_, rfl, rfl⟩, fun p hp => hp⟩
      · intro ρ L hF hfix hold hL
        have u17 : ρ 17 = .slice A fs.length c := hF ⟨0, Ground.data⟩ (by simp) rfl _ _ rfl rfl
        have u18 : ρ 18 = .int .i64 x := hF ⟨1, Ground.data⟩ (by simp) rfl _ _ rfl rfl
        obtain ⟨base, rfl⟩ := Has.base (ρ := ρ) (l := [(17, .slice A fs.length c), (18, .int .i64 x)]) ⟨u17, u18, trivial⟩
        refine RL.indexAddr rfl sl22 rfl rfl (hA (by omega)) (Int.toNat_of_nonneg hxm.1).symm (by omega) ?_
        refine RL.nil ?_
        exact ⟨rfl, ⟨_, rfl, rfl⟩, fun p hp => hp⟩
      · intro ρ L hF hfix hold hL
        have u19 : ρ 19 = .pointer (some ⟨bb, oo + x.toNat * 17, none⟩) := hF ⟨2, Ground.data⟩ (by simp) rfl _ _ rfl rfl
        obtain ⟨base, rfl⟩ := Has.base (ρ := ρ) (l := [(19, .pointer (some ⟨bb, oo + x.toNat * 17, none⟩))]) ⟨u19, trivial⟩
        refine RL.fieldAddr rfl fd30_0 rfl ?_
        refine RL.nil ?_
        exact ⟨rfl, ⟨_, rfl, rfl⟩, fun p hp => hp⟩
      · intro ρ L hF hfix hold hL
        have u20 : ρ 20 = .pointer (some ⟨bb, oo + x.toNat * 17 + 0, none⟩) := hF ⟨3, Ground.data⟩ (by simp) rfl _ _ rfl rfl
        obtain ⟨base, rfl⟩ := Has.base (ρ := ρ) (l := [(20, .pointer (some ⟨bb, oo + x.toNat * 17 + 0, none⟩))]) ⟨u20, trivial⟩
        refine RL.loadIA rfl ag28 rfl (face_id_at hc2 hok hf) nb (gcells_length hfo) ?_
        refine RL.nil ?_
        exact ⟨rfl, ⟨_, rfl, rfl⟩, fun p hp => hp⟩
      · intro ρ L hF hfix hold hL
        have u3 : ρ 3 = .pointer (some ⟨k3, 0, none⟩) := hfix 3 (by decide)
        obtain ⟨base, rfl⟩ := Has.base (ρ := ρ) (l := [(3, .pointer (some ⟨k3, 0, none⟩))]) ⟨u3, trivial⟩
        refine RL.loadIA rfl ag28 rfl e3 n3 (gcells_length hid) ?_
        refine RL.nil ?_
        exact ⟨rfl, ⟨_, rfl, rfl⟩, fun p hp => hp⟩
      · intro ρ L hF hfix hold hL
        have u21 : ρ 21 = .agg (gcells f.id).toArray := hF ⟨4, Ground.data⟩ (by simp) rfl _ _ rfl rfl
        have u22 : ρ 22 = .agg (gcells id).toArray := hF ⟨5, Ground.data⟩ (by simp) rfl _ _ rfl rfl
        obtain ⟨base, rfl⟩ := Has.base (ρ := ρ) (l := [(21, .agg (gcells f.id).toArray), (22, .agg (gcells id).toArray)]) ⟨u21, u22, trivial⟩
        refine RL.eqAd rfl eqg_guid rfl rfl (eq_guid hfo hid) ?_
        refine RL.nil ?_
        exact ⟨rfl, ⟨_, rfl, rfl⟩, fun p hp => hp⟩
      · intro ρ L hT hfix
        have u2 : ρ 2 = .pointer (some ⟨k2, 0, none⟩) := hfix 2 (by decide)
        have u3 : ρ 3 = .pointer (some ⟨k3, 0, none⟩) := hfix 3 (by decide)
        have u5 : ρ 5 = .pointer (some ⟨k5, 0, none⟩) := hfix 5 (by decide)
        have u6 : ρ 6 = .pointer (some ⟨k6, 0, none⟩) := hfix 6 (by decide)
        have u7 : ρ 7 = .int .i64 x := hfix 7 (by decide)
        have u23 : ρ 23 = .bool (decide (f.id = id)) := hT 6 _ _ rfl rfl
        obtain ⟨base, rfl⟩ := Has.base (ρ := ρ) (l := [(2, .pointer (some ⟨k2, 0, none⟩)), (3, .pointer (some ⟨k3, 0, none⟩)), (5, .pointer (some ⟨k5, 0, none⟩)), (6, .pointer (some ⟨k6, 0, none⟩)), (7, .int .i64 x), (23, .bool (decide (f.id = id)))]) ⟨u2, u3, u5, u6, u7, u23, trivial⟩
        refine X.cond_s rfl (fun hh => ?_) (fun hh => ?_)
        · have hhit : idAt fs id x = true := by rw [hid2, decide_eq_true hh]
          refine X.seq ?_
          refine X.region rfl ?_
          refine RL.loadO rfl sc32 rfl rfl ?_
          refine RL.loadI rfl sc3 rfl e6 n6 ?_
          refine RL.bs1I rfl rfl sl32 zt3 rfl ?_
          intro bb3 hbb3
          refine RL.app1I (Lz := [_]) rfl rfl sl32 el_int Try.underlying32 (List.Perm.refl _) rfl rfl hrow (by rw [ints_length]; omega) (n := (underN fs id g ++ [(g : Int)]).length) (by simp [ints_length]) ?_
          intro A3 cp3 Lr3 hr3
          refine RL.stS rfl rfl sc32.size rfl rfl (by first | exact Nat.zero_lt_one | decide | simp) ?_
          refine RL.nil ?_
          refine X.exit_out rfl ?_
          exact ⟨Lr3 ++ [_], List.Sublist.append (List.Sublist.refl _) (List.sublist_append_left _ _), rfl, ⟨x, by simp, hhit⟩, A3, cp3, Lr3, hr3.irow, rfl⟩
        · refine X.skip ?_
          refine X.blk ?_
          refine X.nil ?_
          exact ⟨_, List.Sublist.refl _, rfl, all_snoc hno (by rw [hid2, decide_eq_false hh])⟩
    · rintro LB2 D ⟨rfl, hno⟩
      have hun := underN_no hno
      refine X.blk ?_
      refine X.blk ?_
      refine X.region rfl ?_
      refine RL.add rfl rfl rfl (by omega) ?_
      refine RL.move rfl ?_
      refine RL.nil ?_
      refine X.hyp ⟨g + 1, by omega, (((D, Obj.deferred (some [])) :: markE Ms) ++ (Lr ++ [(k5, cel 32 [.slice A2 (underN fs id g).length cp]), (k3, cel 28 (gcells id)), (k2, cel 22 [.slice A fs.length c])])) ++ [(d2, cel 3 [.int .i64 (g : Int)]), (d1, cel 22 [.slice A fs.length c]), (k6, cel 3 [.int .i64 (g : Int)])], (by classical exact List.perm_iff_count.2 (fun z => by simp only [List.count_append, List.count_cons, List.count_nil, List.cons_append, List.nil_append, List.set_cons_zero, List.set_cons_succ]; omega)), (((D, Obj.deferred (some [])) :: markE Ms) ++ (Lr ++ [(k5, cel 32 [.slice A2 (underN fs id g).length cp]), (k3, cel 28 (gcells id)), (k2, cel 22 [.slice A fs.length c])])), List.sublist_append_left _ _, D :: Ms, A2, cp, Lr, ?_, by omega, ⟨rfl, rfl, rfl, rfl, rfl, trivial⟩, rfl, ?_⟩
      · rw [hun]; exact hrow
      · rw [hun]; rfl
    · rintro e pre x rest LB2 D hF hex ⟨rfl, ⟨y, hy, hyh⟩, A3, cp3, Lr3, hr3, rfl⟩
      have hun := underN_yes (mem_of_snoc hF hy) hyh
      refine X.exit (id := 1) rfl ?_
      refine X.region rfl ?_
      refine RL.add rfl rfl rfl (by omega) ?_
      refine RL.move rfl ?_
      refine RL.nil ?_
      refine X.hyp ⟨g + 1, by omega, (((D, Obj.deferred (some [])) :: markE Ms) ++ (Lr3 ++ [(k5, cel 32 [.slice A3 (underN fs id g ++ [(g : Int)]).length cp3]), (k3, cel 28 (gcells id)), (k2, cel 22 [.slice A fs.length c])])) ++ [(d2, cel 3 [.int .i64 (g : Int)]), (d1, cel 22 [.slice A fs.length c]), (k6, cel 3 [.int .i64 (g : Int)])], (by classical exact List.perm_iff_count.2 (fun z => by simp only [List.count_append, List.count_cons, List.count_nil, List.cons_append, List.nil_append, List.set_cons_zero, List.set_cons_succ]; omega)), (((D, Obj.deferred (some [])) :: markE Ms) ++ (Lr3 ++ [(k5, cel 32 [.slice A3 (underN fs id g ++ [(g : Int)]).length cp3]), (k3, cel 28 (gcells id)), (k2, cel 22 [.slice A fs.length c])])), List.sublist_append_left _ _, D :: Ms, A3, cp3, Lr3, ?_, by omega, ⟨rfl, rfl, rfl, rfl, rfl, trivial⟩, rfl, ?_⟩
      · rw [hun]; exact hr3
      · rw [hun]; rfl
  · replace h : ¬ ((_ : Int) < _) := h
    obtain rfl : g = fs.length := by omega
    refine RL.nil ?_
    refine X.seq ?_
    refine X.cond_f rfl ?_
    refine X.exit rfl ?_
    refine X.seq ?_
    refine X.region rfl ?_
    refine RL.loadO rfl sc32 rfl rfl ?_
    refine RL.assign rfl ?_
    refine RL.nil ?_
    refine X.ret ?_
    refine retms1 (List.Perm.refl _) rfl ?_
    exact ⟨Lr, List.sublist_append_left _ _, _, _, rfl, hrow⟩
end Go.Proofs.Ytjaibkfmkhfjfaa

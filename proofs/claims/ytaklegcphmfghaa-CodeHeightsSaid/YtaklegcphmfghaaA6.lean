/- The iterator over the heights. -/
import Derived.Test.YtaklegcphmfghaaA5
import Derived.Test.YtaklegcphmfghaaCodeL
set_option linter.unusedVariables false
set_option linter.unusedSimpArgs false
namespace Go.Proofs.Ytaklegcphmfghaa
open Go.RowKit
attribute [local irreducible] X RL W Ctr
theorem f_h11 (i h left : Int) (k2 y : Nat) (w : World) (LJ : List Ent) (R : Bool → List Ent → Prop) (hk : w.heap[k2]? = some (cel 44 [.func (.yield y) #[] #[]])) (hk2 : k2 ∉ keys LJ) (hown : ∀ p ∈ LJ, w.heap[p.1]? = some p.2) (hnd : (keys LJ).Nodup)
    (hy : ∀ w2, St w (keys LJ) w2 LJ → YieldC Try.prog y [.int .i64 i, .int .i64 h] w2 LJ R) :
    Ctr Try.prog 26 [.int .i64 i, .int .i64 h, .int .i64 left, .pointer (some ⟨k2, 0, none⟩)] w LJ fun v L => ∃ b : Bool, v = .bool b ∧ R b L := by
  have e2 : w.cell? ⟨k2, 0, none⟩ = some (.func (.yield y) #[] #[]) := by rw [cell_entry hk]; rfl
  refine Ctr.intro (n := 12) Try.func26 rfl Try.ntmps26 (Nat.le_of_ble_eq_true rfl) hown hnd ?_
  refine X.seq ?_
  refine X.region rfl ?_
  refine RL.assign rfl ?_
  refine RL.nil ?_
  refine X.seq ?_
  refine X.region rfl ?_
  refine RL.loadI rfl sc44 rfl e2 hk2 ?_
  refine RL.move rfl ?_
  refine RL.move rfl ?_
  refine RL.yield (LJ := LJ) (Lo := []) rfl rfl rfl (by rw [List.append_nil]) (fun w2 h2 => hy w2 (by rw [List.append_nil] at h2; exact h2)) rfl ?_
  intro b L2 hR
  rw [List.append_nil]
  refine RL.assign rfl ?_
  refine RL.nil ?_
  refine X.ret ?_
  refine ret1 rfl ?_
  exact ⟨b, rfl, hR⟩
theorem f_h0 (A : Option Addr) (n c : Nat) (w : World) : Ctr Try.prog 23 [.slice A n c] w [] fun v L => ∃ b1, v = .func (.func 25) #[] #[.pointer (some ⟨b1, 0, none⟩)] ∧ L = [(b1, cel 22 [.slice A n c])] := by
  refine Ctr.intro0 (n := 4) Try.func23 rfl Try.ntmps23 (Nat.le_of_ble_eq_true rfl) ?_
  refine X.seq ?_
  refine X.region rfl ?_
  refine RL.boxS rfl rfl rfl ?_
  intro b1 hb1
  dsimp only at hb1
  refine RL.assign rfl ?_
  refine RL.nil ?_
  refine X.seq ?_
  refine X.region rfl ?_
  refine RL.makeFunc rfl rfl rfl ?_
  refine RL.assign rfl ?_
  refine RL.nil ?_
  refine X.ret ?_
  refine ret1 rfl ?_
  exact ⟨_, rfl, rfl⟩
theorem f_hiter (l : List Ins) (hlen : l.length ≤ 1000) (A : Option Addr) (c b1 bb oo : Nat) (Av : List Nat) (w : World) (h1 : w.heap[b1]? = some (cel 22 [.slice A l.length c])) (hA : 0 < l.length → A = some ⟨bb, oo, none⟩) (hc : CellsAt w bb oo (icells l)) (hv1 : b1 ∈ Av) (hvb : 0 < l.length → bb ∈ Av) :
    Iter Try.prog 25 [.pointer (some ⟨b1, 0, none⟩)] (fun x : Int × Int => [Value.int .i64 x.1, Value.int .i64 x.2]) (told l) Av w := by
  intro y LJ J Jx hown hnd hAv hJ0 hy
  have n1 := hAv b1 hv1
  have nb : 0 < l.length → bb ∉ keys LJ := fun h => hAv bb (hvb h)
  have e1 : w.cell? ⟨b1, 0, none⟩ = some (.slice A l.length c) := by rw [cell_entry h1]; rfl
  refine Ctr.intro (n := 6) Try.func25 rfl Try.ntmps25 (Nat.le_of_ble_eq_true rfl) hown hnd ?_
  refine X.seq ?_
  refine X.region rfl ?_
  refine RL.boxF rfl rfl rfl ?_
  intro k2 hk2
  dsimp only at hk2
  refine RL.nil ?_
  refine X.region rfl ?_
  refine RL.loadI rfl sc22 rfl e1 n1 ?_
  refine RL.makeFunc rfl rfl rfl ?_
  refine RL.fn (Lp := LJ) (Lr := [(k2, cel 44 [.func (.yield y) #[] #[]])]) rfl rfl rfl en19 (by classical exact List.perm_iff_count.2 (fun z => by simp only [List.count_append, List.count_cons, List.count_nil, List.cons_append, List.nil_append, List.set_cons_zero, List.set_cons_succ]; omega)) (fun w2 hw2 => f_walk l hlen A c bb oo w2 hA (elem_st hw2 hc nb) 8 26 [.pointer (some ⟨k2, 0, none⟩)] en26 LJ (fun pre L => J (pre.map pr) L) (fun pre L => Jx (pre.map pr) L) (fun p hp => hw2.own p (List.mem_append_left _ hp)) hnd nb hJ0 ?_) rfl ?_
  · intro pre x rest LJ2 Lo w1 hF hJ hst
    have hlt : k2 < w2.heap.size := hw2.lt (p := (k2, cel 44 [.func (.yield y) #[] #[]])) (by simp)
    have hst1 : St w (keys LJ) w1 (LJ2 ++ (Lo ++ [(k2, cel 44 [.func (.yield y) #[] #[]])])) := by have := hw2.comp hst; rwa [List.append_assoc] at this
    have hk := hst1.own (k2, cel 44 [.func (.yield y) #[] #[]]) (by simp)
    have hkn := hst1.not_left (p := (k2, cel 44 [.func (.yield y) #[] #[]])) (by simp)
    have hn2 : (keys LJ2).Nodup := (hst1.nodup).sublist ((List.sublist_append_left _ _).map _)
    refine (f_h11 x.1 x.2.1 x.2.2 k2 y w1 LJ2 _ hk hkn (fun p hp => hst1.own p (List.mem_append_left _ hp)) hn2 (fun w3 h3 => hy (pre.map pr) (pr x) (rest.map pr) LJ2 (Lo ++ [(k2, cel 44 [.func (.yield y) #[] #[]])]) w3 (map_split hF) hJ (hst1.comp h3))).mono fun v L h => ?_
    obtain ⟨b, hb, hr⟩ := h
    rw [List.map_append]
    exact ⟨b, hb, hr⟩
  rintro _ _ ⟨LJ3, hs, ⟨hJ3, rfl⟩ | ⟨pre, x, rest, hF, hJ3, rfl⟩⟩
  · refine RL.drop (L' := LJ3 ++ [(k2, cel 44 [.func (.yield y) #[] #[]])]) rfl (hs.append (List.Sublist.refl _)) ?_
    refine RL.nil ?_
    refine X.nil ?_
    refine end0 rfl ?_
    exact ⟨LJ3, _, rfl, .inl hJ3⟩
  · refine RL.drop (L' := LJ3 ++ [(k2, cel 44 [.func (.yield y) #[] #[]])]) rfl (hs.append (List.Sublist.refl _)) ?_
    refine RL.nil ?_
    refine X.nil ?_
    refine end0 rfl ?_
    exact ⟨LJ3, _, rfl, .inr ⟨pre.map pr, pr x, rest.map pr, map_split hF, by rw [List.map_append] at hJ3; exact hJ3⟩⟩
end Go.Proofs.Ytaklegcphmfghaa

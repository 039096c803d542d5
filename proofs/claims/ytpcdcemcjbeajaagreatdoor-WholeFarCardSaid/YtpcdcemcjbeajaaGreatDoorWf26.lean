/- WholeFar: FarSc, FarSd. -/
import Derived.Test.YtpcdcemcjbeajaaGreatDoorWf17
import Derived.Test.YtpcdcemcjbeajaaGreatDoorWf25
section
set_option maxHeartbeats 400000
set_option linter.unusedVariables false
set_option linter.unusedSimpArgs false
set_option maxRecDepth 100000
namespace Go.Proofs.YtpcdcemcjbeajaaGreatDoor
open Go Go.RowKit Go.Shelf
def bZ : Bs := ⟨0, 0, 0, 0, 0, 0, 0, 0, 0, 0, 0, 0, 0, 0, 0, 0, 0, 0, 0, 0, 0, 0, 0, 0, 0, 0, 0, 0, 0, 0, 0, 0, 0, 0, 0, 0, 0, 0, 0, 0, 0, 0, 0, 0, 0, 0, 0, 0, 0, 0, 0, 0, 0, 0, v0, v0, v0, v0, v0, v0, v0, v0, v0, v0, v0, v0, v0, v0, v0, v0, v0, v0, v0, v0, v0, v0, v0, v0, v0, v0, fun _ => [], fun _ => .m [] 0⟩
noncomputable def nF (h : Nat) : Nat → Nat
  | 0 => 707 + 14 * h
  | 1 => 709 + 14 * h
  | 2 => 708 + 14 * h
  | 3 => 683 + 3 * h
  | 4 => 694 + 14 * h
  | 5 => eLt h
  | 6 => 696 + 14 * h
  | 7 => 695 + 14 * h
  | 8 => 757 + 14 * h
  | 9 => 754 + 14 * h
  | 10 => 682 + 3 * h
  | 11 => 24 + 3 * h
  | 12 => 681 + 3 * h
  | 13 => 678 + 3 * h
  | 14 => 658 + 3 * h
  | 15 => 706 + 14 * h
  | 17 => 704 + 14 * h
  | 18 => 705 + 14 * h
  | 20 => 686 + 3 * h
  | 21 => 687 + 3 * h
  | 22 => 894 + 14 * h
  | 23 => 689 + 3 * h
  | 24 => 688 + 3 * h
  | 25 => 818 + 14 * h
  | 26 => 812 + 14 * h
  | 27 => 692 + 3 * h
  | 40 => 663 + 3 * h
  | _ => 0
noncomputable def nH (h i : Nat) : Nat → Nat
  | 20 => hbN h i
  | 21 => hbN h i + 1
  | 22 => heN h i - 8
  | 23 => hbN h i + 5
  | 24 => hbN h i + 4
  | 25 => heN h i - 23
  | 26 => heN h i - 27
  | 27 => heN h i - 17
  | 28 => hbN h i + 6
  | _ => 0
def evs0 (h : Nat) : List Ew := .tref 4294967297 :: .tref 4294967297 :: .tref 4294967298 :: List.replicate h (.tref 4294967297)
section
variable (D : Dt) (x : Nm → Xt) (fl : Nat → Bool) (h : Nat)
noncomputable def hm0 (i : Nat) : Hm := ⟨fun k => D.ad (mn (nH h i k)), fun k => (x (mn (nH h i k))).1, vP (D.ad (mn (hbN h i + 3))).1, vP (D.ad (mn (hbN h i - 1))).1, (i * 1152921504606846976 + 4294967297), fl i, false, []⟩
noncomputable def hms0 : Nat → Nat → List Hm
  | _, 0 => []
  | i, n + 1 => hm0 D x fl h i :: hms0 (i + 1) n
noncomputable def bs0 : Bs := { bZ with H := h + 1, lL := h + 3, told := vS (some ⟨(D.ad (mn (eLt h - 3))).1, 0, none⟩) 1 (D.ad (mn (eLt h - 3))).2, w0 := vS (some ⟨(D.ad (mn (18 + 3 * h))).1, 0, none⟩) (h + 1) (D.ad (mn (18 + 3 * h))).2, w1 := vS (some ⟨(D.ad (mn 14)).1, 0, none⟩) 1 1, w8 := vP (D.ad (mn (699 + 14 * h))).1, w9 := vP (D.ad (mn (701 + 14 * h))).1, w10 := vP (D.ad (mn (703 + 14 * h))).1, w13 := vP (D.ad (mn (707 + 14 * h))).1, hs := vP (D.ad (mn (691 + 3 * h))).1, hl := vP (D.ad (mn (685 + 3 * h))).1, sc := vP (D.ad (mn (815 + 14 * h))).1, ol := vS (some ⟨(D.ad (mn (753 + 14 * h))).1, 0, none⟩) 2 2, pl0 := vS none 0 0, pl1 := vS none 0 0, pl2 := vS none 0 0, pl3 := vS none 0 0, pl4 := vS none 0 0, pl5 := vS none 0 0, pl6 := vS none 0 0, pl7 := vS none 0 0, pl8 := vS none 0 0, rows := fun k => match k with | 1 => (evs0 h).flatMap Ew.cells | 2 => vP (D.ad (mn (686 + 3 * h))).1 :: (hms0 D x fl h 1 h).map (fun g => vP (g.F 20).1) | _ => [] }
noncomputable def st0 : Sta := ⟨fun k => D.ad (mn (nF h k)), fun k => (x (mn (nF h k))).1, cel 241 [.int .i64 256, .int .u32 1, .slice none 0 0, .slice none 0 0, .int .i64 0], bs0 D x fl h, false, [], [], 0, [], 0, .nil, false, hms0 D x fl h 1 h⟩
end
section
variable {D : Dt} {x : Nm → Xt} {fl : Nat → Bool} {h : Nat}
theorem hmPs_de : ∀ (n i : Nat), (hmPs h i n).map (deS D) = vals ((hms0 D x fl h i n).map fun g => vP (g.F 20).1)
  | 0, _ => rfl
  | n + 1, i => by show Value.pointer (some ⟨(D.ad (mn (hbN h i))).1, 0, none⟩) :: (hmPs h (i + 1) n).map (deS D) = _; rw [hmPs_de n (i + 1)]; rfl
theorem hmPs_len : ∀ (n i : Nat), (hmPs h i n).length = n
  | 0, _ => rfl
  | n + 1, i => by show (hmPs h (i + 1) n).length + 1 = _; rw [hmPs_len]
theorem hms0_len : ∀ (n i : Nat), (hms0 D x fl h i n).length = n
  | 0, _ => rfl
  | n + 1, i => by show (hms0 D x fl h (i + 1) n).length + 1 = _; rw [hms0_len]
theorem evsS_de : ∀ (n : Nat), (evsS n).map (deS D) = vals ((List.replicate n (Ew.tref 4294967297)).flatMap Ew.cells)
  | 0 => rfl
  | n + 1 => by
    rw [List.replicate_succ, List.flatMap_cons, vals_app, ← evsS_de n]
    show (evS 4294967297 ++ evsS n).map (deS D) = _
    rw [List.map_append]; rfl
theorem evsS_len : ∀ (n : Nat), (evsS n).length = n * 6
  | 0 => rfl
  | n + 1 => by
    show (evS 4294967297 ++ evsS n).length = _
    rw [List.length_append, evsS_len n]
    show 6 + n * 6 = _; omega
theorem esHs_de {b : Bs} (hfl : D.tk = tkF fl) : ∀ (n i : Nat), (esHs h i n).map (deE D x) = (hms0 D x fl h i n).flatMap (gHm b)
  | 0, _ => rfl
  | n + 1, i => by
    have e : (esH h i).map (deE D x) = gHm b (hm0 D x fl h i) := by
      have ht : D.tk.val i = .bool (fl i) := by rw [hfl]; rfl
      refine mapEq ⟨?_, rfl, rfl, rfl, rfl, rfl, rfl, rfl, rfl, trivial⟩
      show (_, cel 118 [D.tk.val i, _, _, _, _, _, _, _]) = _
      rw [ht]; rfl
    show (esH h i ++ esHs h (i + 1) n).map (deE D x) = _
    rw [List.map_append, e, esHs_de hfl n (i + 1)]; rfl
theorem esF_de : (esF h).map (deE D x) = [((D.ad (mn (nF h 0))).1, (st0 D x fl h).O)] ++ (comS (st0 D x fl h) ++ ([rowE (st0 D x fl h).F (st0 D x fl h).J 5 50 ((st0 D x fl h).b.rows 1)] ++ (hpA (st0 D x fl h).F (st0 D x fl h).J (st0 D x fl h).b 0 ++ (netA (st0 D x fl h).F (st0 D x fl h).J (st0 D x fl h).b nilS ++ (netM (st0 D x fl h).F [] 0 [] 0 ++ (h0A (st0 D x fl h).F (st0 D x fl h).J (st0 D x fl h).b nilS ++ rgA (st0 D x fl h).F (st0 D x fl h).J (st0 D x fl h).b nilS 0 0)))))) := by
  have e4 : (pP (686 + 3 * h) 0 :: hmPs h 1 h).map (deS D) = vals ((st0 D x fl h).b.rows 2) := by
    rw [List.map_cons, hmPs_de (x := x) (fl := fl)]; rfl
  have e5q : (evS 4294967297 ++ (evS 4294967297 ++ (evS 4294967298 ++ evsS h))).map (deS D) = vals ((st0 D x fl h).b.rows 1) := by
    rw [List.map_append, List.map_append, List.map_append, evsS_de]; rfl
  refine mapEq ⟨rfl, rfl, rfl, rfl, ?_, ?_, rfl, rfl, rfl, rfl, rfl, rfl, rfl, rfl, rfl, rfl, rfl, rfl, rfl, rfl, rfl, rfl, rfl, rfl, rfl, rfl, trivial⟩
  · show (_, cel 111 ((pP (686 + 3 * h) 0 :: hmPs h 1 h).map (deS D) ++ _)) = _
    rw [e4]; rfl
  · show (_, cel 50 ((evS 4294967297 ++ (evS 4294967297 ++ (evS 4294967298 ++ evsS h))).map (deS D) ++ _)) = _
    rw [e5q]; rfl
theorem esS_de (hfl : D.tk = tkF fl) : (esS h).map (deE D x) = blocks (st0 D x fl h) := by
  unfold esS
  rw [List.map_append, esF_de (fl := fl), esHs_de (b := (st0 D x fl h).b) hfl]
  show _ = _ ++ (_ ++ (_ ++ (_ ++ (_ ++ ([] ++ (_ ++ (_ ++ ([] ++ ([] ++ (_ ++ ([] ++ ((hms0 D x fl h 1 h).flatMap (gHm (st0 D x fl h).b) ++ []))))))))))))
  simp only [List.append_assoc, List.nil_append, List.append_nil]
  rfl
end
end Go.Proofs.YtpcdcemcjbeajaaGreatDoor
end
section
set_option maxHeartbeats 400000
set_option linter.unusedVariables false
set_option linter.unusedSimpArgs false
set_option maxRecDepth 100000
namespace Go.Proofs.YtpcdcemcjbeajaaGreatDoor
open Go Go.RowKit Go.Shelf
theorem nd_es : ((List.range 4).all fun h => nmsB ((esS h).map (·.1)) && (esS h).all fun p => fnO p.2) = true := by decide +kernel
section
variable {D : Dt} {x : Nm → Xt} {fl : Nat → Bool} {h : Nat}
theorem hms0_all {P : Hm → Prop} (hp : ∀ i, 1 ≤ i → i ≤ 3 → P (hm0 D x fl h i)) : ∀ (n i : Nat), 1 ≤ i → i + n ≤ 4 → ∀ g ∈ hms0 D x fl h i n, P g
  | 0, _, _, _, g, hg => absurd (show g ∈ [] from hg) List.not_mem_nil
  | n + 1, i, h1, h2, g, hg => by
    rcases List.mem_cons.1 (show g ∈ hm0 D x fl h i :: hms0 D x fl h (i + 1) n from hg) with rfl | hg
    · exact hp i h1 (by omega)
    · exact hms0_all hp n (i + 1) (by omega) (by omega) g hg
theorem rm_hms : ∀ (n i : Nat), AllP (infE D x (esHs h i n)) → ∀ g ∈ hms0 D x fl h i n, RmHm g
  | 0, _, _, g, hg => absurd (show g ∈ [] from hg) List.not_mem_nil
  | n + 1, i, hI, g, hg => by
    have hI : AllP (infE D x (esH h i ++ esHs h (i + 1) n)) := hI
    rw [infE_app] at hI
    obtain ⟨h1, h2⟩ := AllP.app.1 hI
    rcases List.mem_cons.1 (show g ∈ hm0 D x fl h i :: hms0 D x fl h (i + 1) n from hg) with rfl | hg
    · exact ⟨⟨inf_c 2 (mn (heN h i - 8)) h1 rfl, inf_c 5 (mn (heN h i - 23)) h1 rfl, inf_c 7 (mn (heN h i - 17)) h1 rfl⟩, fun h => (by cases h), fun _ => rfl⟩
    · exact rm_hms n (i + 1) h2 g hg
theorem unr0 : ∀ (n i k : Nat), unready k (hms0 D x fl h i n) = []
  | 0, _, _ => rfl
  | n + 1, i, k => by show [] ++ unready (k + 1) (hms0 D x fl h (i + 1) n) = []; rw [unr0]; rfl
theorem pot0 : ∀ (n i : Nat), sumN ((hms0 D x fl h i n).map potH) = 0
  | 0, _ => rfl
  | n + 1, i => by show 0 + sumN ((hms0 D x fl h (i + 1) n).map potH) = 0; rw [pot0]
theorem refs_ok {l : List Ew} (hl : ∀ e ∈ l, ∃ r, e = .tref r) : okW l ∧ vlW l = 0 := by
  refine ⟨fun i e he => ?_, ?_⟩
  · obtain ⟨r, rfl⟩ := hl e (List.mem_of_getElem? he)
    trivial
  · induction l with
    | nil => rfl
    | cons e l ih =>
      obtain ⟨r, rfl⟩ := hl e (by simp)
      exact ih fun e he => hl e (List.mem_cons_of_mem _ he)
theorem evs0_refs (h : Nat) : ∀ e ∈ evs0 h, ∃ r, e = .tref r := fun e he => by
  rcases List.mem_cons.1 he with rfl | he
  · exact ⟨_, rfl⟩
  rcases List.mem_cons.1 he with rfl | he
  · exact ⟨_, rfl⟩
  rcases List.mem_cons.1 he with rfl | he
  · exact ⟨_, rfl⟩
  · exact ⟨_, (List.mem_replicate.1 he).2⟩
theorem evs0_len (h : Nat) : (evs0 h).length = h + 3 := by show (List.replicate h _).length + 3 = _; rw [List.length_replicate]
theorem wf0 (h3 : h ≤ 3) (hI : AllP (infE D x (esS h))) : WF (st0 D x fl h) := by
  have hI0 := hI
  unfold esS at hI0
  rw [infE_app] at hI0
  obtain ⟨i1, i2⟩ := AllP.app.1 hI0
  have hr1 : ((st0 D x fl h).b.rows 1).length = (h + 3) * 6 := by show ((evs0 h).flatMap Ew.cells).length = _; rw [cells_len, evs0_len]
  have g4 := inf_c 4 (mn (694 + 14 * h)) i1 rfl
  have g5 := inf_c 5 (mn (eLt h)) i1 rfl
  have e4 : (pP (686 + 3 * h) 0 :: hmPs h 1 h).length = h + 1 := by rw [List.length_cons, hmPs_len]
  have e5q : (evS 4294967297 ++ (evS 4294967297 ++ (evS 4294967298 ++ evsS h))).length = (h + 3) * 6 := by
    rw [List.length_append, List.length_append, List.length_append, evsS_len]
    show 6 + (6 + (6 + h * 6)) = _; omega
  rw [e4] at g4
  rw [e5q] at g5
  have g13 := inf_at (i := 13) i1 rfl
  exact {
    com := ⟨by show (h + 1) * 1 + _ = _; rw [Nat.mul_one]; exact g4, g5⟩
    hp := ⟨inf_c 8 (mn (757 + 14 * h)) i1 rfl, inf_c 12 (mn (681 + 3 * h)) i1 rfl, inf_c 14 (mn (658 + 3 * h)) i1 rfl, (by have : 0 + 2 ≤ (D.ad (mn (663 + 3 * h))).2 := g13.2.1; show 2 ≤ (D.ad (mn (663 + 3 * h))).2; omega)⟩
    rnet := fun h => by cases h
    h0 := ⟨inf_c 20 (mn (894 + 14 * h)) i1 rfl, inf_c 23 (mn (818 + 14 * h)) i1 rfl⟩
    rt := trivial
    rrg := fun h => by cases h
    hm := rm_hms h 1 i2
    rL := hr1
    bL := by show h + 3 ≤ 1000; omega
    rH := rfl
    bH := by show h + 1 = (hms0 D x fl h 1 h).length + 1; rw [hms0_len]
    cH := by show h + 1 ≤ 4; omega
    rR := rfl
    lR := rfl
    bR := Nat.zero_le _
    nR := fun _ => rfl
    rP := fun p hp => absurd (show p ∈ [] from hp) List.not_mem_nil
    rN := fun _ => ⟨rfl, rfl⟩
    rQ := fun h => by cases h
    bQ := Nat.zero_le _ }
theorem good0 (h3 : h ≤ 3) (hI : AllP (infE D x (esS h))) : Good (st0 D x fl h) ⟨[], evs0 h, 0, 0⟩ := {
  wf := wf0 h3 hI
  qn := rfl
  qr := fun h => by cases h
  r1 := rfl
  ok := (refs_ok (evs0_refs h)).1
  vl := (refs_ok (evs0_refs h)).2.symm
  sm := by show vlW (evs0 h) + 0 = 0; rw [(refs_ok (evs0_refs h)).2]; rfl
  un := by show ([] : List (Nat × Nat)).Perm (unready 1 (hms0 D x fl h 1 h)); rw [unr0]
  hm := hms0_all (fun i h1 h2 => ⟨Nat.zero_le _, fun _ => Nat.zero_le _, List.nodup_nil, fun t ht => absurd (show t ∈ [] from ht) List.not_mem_nil, by
    show LhOk (i * 1152921504606846976 + 4294967297)
    unfold LhOk; omega⟩) h 1 (Nat.le_refl 1) (by omega)
  tr := fun i g hg => by
    have := hms0_all (D := D) (x := x) (fl := fl) (h := h) (P := fun g => g.tr = false) (fun _ _ _ => rfl) h 1 (Nat.le_refl 1) (by omega) g (List.mem_of_getElem? hg)
    rw [this]
    exact ⟨fun h => (by cases h), fun h => (by cases h)⟩
  nr := fun _ => rfl
  pk := fun p hp => absurd (show p ∈ [] from hp) List.not_mem_nil
  qk := fun p hp => absurd (show p ∈ [] from hp) List.not_mem_nil
  t0 := trivial
  mn := List.nodup_nil
  ml := fun p hp => absurd (show p ∈ [] from hp) List.not_mem_nil
  ms := fun a b q h => by cases h
  po := by show (evs0 h).length + 2 * (0 + (0 + (0 + sumN ((hms0 D x fl h 1 h).map potH)))) ≤ _; rw [pot0, evs0_len]; omega
  cl := Nat.zero_le _
  nc := Nat.zero_le _ }
end
theorem stg_end {K : Ih} {h gb i : Nat} {fl : Nat → Bool} {L : List Ent} (h3 : h ≤ 3) (hst : Stu h gb fl (gets K h 0 i) L) : ∃ (s : Sta) (g : Gh) (Jk : List Ent), L.Perm (blocks s ++ Jk) ∧ Good s g ∧ (s.F 1).1 = gb ∧ s.hms.length = h ∧ g.sum = 0 ∧ g.nc = 0 := by
  obtain ⟨σ, hp, nx, hH, hr, ⟨c, hg⟩, ht⟩ := hst
  have hr : covB hp (esS h) = true := hr
  have hn := List.all_eq_true.1 nd_es h (List.mem_range.2 (by omega))
  rw [Bool.and_eq_true] at hn
  have ha : ∀ n u, σ n = some u → (Dt.mk (fun n => (σ n).getD (0, 0)) (tkF fl)).ad n = u := fun n u hu => by
    show (σ n).getD (0, 0) = u; rw [hu]; rfl
  obtain ⟨L1, g1, g2, g3⟩ := back_of hH (covB_ok hr) (nmsB_ok hn.1)
  obtain ⟨x, rfl, g5⟩ := post_E (D := ⟨fun n => (σ n).getD (0, 0), tkF fl⟩) ha ht (fun i => rfl) (nmsB_ok hn.1) hn.2 g1
  obtain ⟨J, hJ⟩ := sub_perm g2 fun q hq => (g3 q hq).1
  rw [esS_de (fl := fl) rfl] at hJ
  exact ⟨_, _, J, hJ, good0 h3 g5, by show ((σ (mn (709 + 14 * h))).getD (0, 0)).1 = gb; rw [hg]; rfl, hms0_len _ _, rfl, rfl⟩
end Go.Proofs.YtpcdcemcjbeajaaGreatDoor
end

/- WholeFar: FarAc, FarAd, FarAe, FarLa. -/
import Derived.Test.YtpcdcemcjbeajaaGreatDoorWf02
import Derived.Test.YtpcdcemcjbeajaaGreatDoorWf20
import Derived.Test.YtpcdcemcjbeajaaGreatDoorWf21
import Derived.Test.YtpcdcemcjbeajaaGreatDoorWf22
section
set_option maxHeartbeats 400000
set_option linter.unusedVariables false
set_option linter.unusedSimpArgs false
set_option maxRecDepth 100000
namespace Go.Proofs.YtpcdcemcjbeajaaGreatDoor
open Go Go.RowKit Go.Shelf
theorem Left.mono {s : Sta} {g : Gh} {L' : List Ent} {y : Value} {c : Nat} {R R' : Sta → Gh → Prop} (h : Left s g L' y c R) (hr : ∀ s' g', R s' g' → R' s' g') : Left s g L' y c R' := by
  obtain ⟨s', g', Jk, v, h1, h2, h3, h4, h5, h6⟩ := h
  exact ⟨s', g', Jk, v, h1, h2, h3, h4, h5, hr _ _ h6⟩
def Did (s : Sta) (g : Gh) (L' : List Ent) (y : Value) (I : Prop) : Prop := Left s g L' y 0 (fun s' g' => potN s' g'.qs + 1 = potN s g.qs ∧ g'.sum = g.sum ∧ g'.nc = g.nc) ∨ I ∧ Left s g L' y 12 (fun s' g' => g' = g ∧ s'.net = s.net ∧ s'.t0 = s.t0 ∧ potN s' g.qs = potN s g.qs)
theorem split_at {α : Type} {l : List α} {k : Nat} (h : k < l.length) : ∃ l1 p l2, l = l1 ++ p :: l2 ∧ l1.length = k :=
  ⟨l.take k, l[k], l.drop (k + 1), by rw [List.getElem_cons_drop, List.take_append_drop], by rw [List.length_take]; omega⟩
theorem home_of {s : Sta} {i : Nat} (h1 : 1 ≤ i) (h2 : i ≤ s.hms.length) : ∃ k1 h k2, s.hms = k1 ++ h :: k2 ∧ k1.length + 1 = i := by
  obtain ⟨k1, h, k2, e, el⟩ := split_at (l := s.hms) (k := i - 1) (by omega)
  exact ⟨k1, h, k2, e, by omega⟩
theorem eqH {s : Sta} {k1 k2 : List Hm} {h : Hm} (hh : s.hms = k1 ++ h :: k2) : wH s k1 k2 h = s := by
  unfold wH
  rw [← hh]
section
variable {s : Sta} {g : Gh} (hg : Good s g) {w : World} (hown : ∀ p ∈ blocks s, w.heap[p.1]? = some p.2) (hnd : (keys (blocks s)).Nodup)
include hg hown hnd
theorem do_deliver (n : Int) : Ctr Tryz.prog 8 [.pointer (some ⟨(s.F 1).1, 0, none⟩), actVal 22 0 0 n] w (blocks s) fun y L' => Did s g L' y (s.net = []) := by
  by_cases hnet : s.net = []
  · have hlR : s.b.lR = 0 := by rw [hg.wf.lR, hnet]; rfl
    have sm : ∀ {J o y L'} {Jk : List Ent} {v : Value}, L'.Perm (blocks { s with J := J, O := o, b := { s.b with told := vS none 0 0 } } ++ Jk) → WF { s with J := J, O := o, b := { s.b with told := vS none 0 0 } } → y = .tuple #[v, .int .i64 12] → Did s g L' y (s.net = []) := fun {J o y L' Jk v} h1 h2 h3 => .inr ⟨hnet, _, g, Jk, v, h1, { hg with wf := h2 }, rfl, rfl, h3, rfl, rfl, rfl, rfl⟩
    cases hnr : s.nr with
    | false =>
      have eS : ({ s with nr := false, net := [], b := { s.b with lR := 0 } } : Sta) = s := (by rw [hnr, hnet, hlR] : _ = ({ s with nr := s.nr, net := s.net, b := { s.b with lR := s.b.lR } } : Sta))
      have := a_den (s := s) (by rw [eS]; exact hg.wf) n (w := w) (by rw [eS]; exact hown) (by rw [eS]; exact hnd)
      rw [eS] at this
      refine this.mono ?_
      rintro y L' ⟨J, o, Jk, h1, h2, v, h3⟩
      have e2 : ({ s with nr := false, net := [], J := J, O := o, b := { s.b with told := vS none 0 0, lR := 0 } } : Sta) = { s with J := J, O := o, b := { s.b with told := vS none 0 0 } } := (by rw [hnr, hnet, hlR] : _ = ({ s with nr := s.nr, net := s.net, J := J, O := o, b := { s.b with told := vS none 0 0, lR := s.b.lR } } : Sta))
      exact sm (e2 ▸ h1) (e2 ▸ h2) h3
    | true =>
      have eS : ({ s with nr := true, net := [], b := { s.b with lR := 0 } } : Sta) = s := (by rw [hnr, hnet, hlR] : _ = ({ s with nr := s.nr, net := s.net, b := { s.b with lR := s.b.lR } } : Sta))
      have := a_der (s := s) (by rw [eS]; exact hg.wf) n (w := w) (by rw [eS]; exact hown) (by rw [eS]; exact hnd)
      rw [eS] at this
      refine this.mono ?_
      rintro y L' ⟨J, o, Jk, h1, h2, v, h3⟩
      have e2 : ({ s with nr := true, net := [], J := J, O := o, b := { s.b with told := vS none 0 0, lR := 0 } } : Sta) = { s with J := J, O := o, b := { s.b with told := vS none 0 0 } } := (by rw [hnr, hnet, hlR] : _ = ({ s with nr := s.nr, net := s.net, J := J, O := o, b := { s.b with told := vS none 0 0, lR := s.b.lR } } : Sta))
      exact sm (e2 ▸ h1) (e2 ▸ h2) h3
  · have hpos : 0 < s.net.length := List.length_pos_iff.2 hnet
    have hlR := hg.wf.lR
    have hnr : s.nr = true := by
      cases h : s.nr with
      | true => rfl
      | false => exact absurd (hg.wf.nR h) hnet
    have hb1 := Int.tmod_lt_of_pos n (b := (s.b.lR : Int)) (by omega)
    have hb2 := Int.lt_tmod_of_pos n (b := (s.b.lR : Int)) (by omega)
    obtain ⟨k, hk1, hk2⟩ : ∃ k : Nat, k < s.net.length ∧ (n.tmod (s.b.lR : Int) = (k : Int) ∨ n.tmod (s.b.lR : Int) < 0 ∧ n.tmod (s.b.lR : Int) + (s.b.lR : Int) = (k : Int)) := by
      by_cases h0 : 0 ≤ n.tmod (s.b.lR : Int)
      · exact ⟨(n.tmod (s.b.lR : Int)).toNat, by omega, .inl (by omega)⟩
      · exact ⟨(n.tmod (s.b.lR : Int) + (s.b.lR : Int)).toNat, by omega, .inr ⟨by omega, by omega⟩⟩
    obtain ⟨l1, p, l2, he, hl⟩ := split_at hk1
    rw [← hl] at hk2
    have hp : p ∈ s.net := by rw [he]; simp
    rcases (hg.pk p hp).2 with h | h
    · exact (do_dc hg he h.1 hk2 hown hnd).mono fun y L' h => .inl h
    · obtain ⟨k1, hm, k2, hh, hi⟩ := home_of h.2.2.1 h.2.2.2.1
      have h0 := hg.hm hm (by rw [hh]; simp)
      have hin : (p.to, p.call) ∈ unready 1 s.hms := by
        refine hg.un.mem_iff.1 (List.mem_append_left _ (List.mem_map.2 ⟨p, hp, ?_⟩))
        unfold unP; rw [h.1]; rfl
      have key : ∀ (l : List Hm) (i : Nat), (p.to, p.call) ∈ unready i l → ∃ x, l[p.to - i]? = some x ∧ i ≤ p.to ∧ ∃ t ∈ x.ths, t.rs = none ∧ t.wt = p.call := by
        intro l
        induction l with
        | nil => intro i hi; cases hi
        | cons x l ih =>
          intro i hi
          rcases List.mem_append.1 hi with hi | hi
          · obtain ⟨t, ht, e⟩ := List.mem_map.1 hi
            obtain ⟨ht1, ht2⟩ := List.mem_filter.1 ht
            injection e with e1 e2
            refine ⟨x, by rw [show p.to - i = 0 by omega]; rfl, by omega, t, ht1, ?_, e2⟩
            unfold waitB at ht2
            cases hr : t.rs with
            | none => rfl
            | some v => rw [hr] at ht2; cases ht2
          · obtain ⟨y, h1, h2, h3⟩ := ih (i + 1) hi
            refine ⟨y, ?_, by omega, h3⟩
            rw [show p.to - i = (p.to - (i + 1)) + 1 by omega]
            exact h1
      obtain ⟨x, hx, _, t, ht, htr, htw⟩ := key s.hms 1 hin
      rw [hh, ← hi, Nat.add_sub_cancel, get_at] at hx
      cases hx
      obtain ⟨j, hj⟩ := List.mem_iff_getElem?.1 ht
      have htrue : hm.tr = true := by
        cases hx : hm.tr with
        | true => rfl
        | false =>
          have := (hg.wf.hm hm (by rw [hh]; simp)).2.2 hx
          rw [this] at ht; cases ht
      have eS : ({ s with nr := true, net := l1 ++ p :: l2, hms := k1 ++ hm :: k2 } : Sta) = s := by rw [← hnr, ← he, ← hh]
      have := a_dr (s := s) (n := n) (w := w) htrue (by rw [eS]; exact hg.wf) h0.n4 hj htr htw (Nat.ne_of_gt (h0.th t ht).1) (fun i u hi hu => ?_) h.1 hi.symm hk2 (cm_of hg he) (pkb_of hg hp) (by rw [eS]; exact hown) (by rw [eS]; exact hnd)
      · rw [eS] at this
        refine this.mono ?_
        rintro y L' ⟨J, o, K, Jk, h1, h2, v, h3⟩
        have h4 := g_dr hg hh he hj htr htw h.1 hi.symm hnr h2 rfl
        exact .inl ⟨_, g, Jk, v, h1, h4.1, rfl, by show (k1 ++ _ :: k2).length = _; rw [hh]; exact len_mid2, h3, h4.2, rfl, rfl⟩
      · intro hwt
        have hil := (List.getElem?_eq_some_iff.1 hu).1
        have hjl := (List.getElem?_eq_some_iff.1 hj).1
        have e1 : (hm.ths.map Th.wt)[i]? = some p.call := by rw [List.getElem?_map, hu]; exact congrArg some hwt
        have e2 : (hm.ths.map Th.wt)[j]? = some p.call := by rw [List.getElem?_map, hj]; exact congrArg some htw
        have := (List.getElem?_inj (by rw [List.length_map]; exact hil) h0.nd).1 (e1.trans e2.symm)
        omega
end
end Go.Proofs.YtpcdcemcjbeajaaGreatDoor
end
section
set_option maxHeartbeats 400000
set_option linter.unusedVariables false
set_option linter.unusedSimpArgs false
set_option maxRecDepth 100000
namespace Go.Proofs.YtpcdcemcjbeajaaGreatDoor
open Go Go.RowKit Go.Shelf
theorem unready_mem : ∀ {l : List Hm} {i : Nat} {z : Nat × Nat}, z ∈ unready i l → ∃ k x t, l[k]? = some x ∧ z.1 = i + k ∧ t ∈ x.ths ∧ t.rs = none ∧ t.wt = z.2
  | [], _, _, h => absurd h List.not_mem_nil
  | x :: l, i, z, h => by
    rcases List.mem_append.1 h with h | h
    · obtain ⟨t, ht, rfl⟩ := List.mem_map.1 h
      obtain ⟨ht1, ht2⟩ := List.mem_filter.1 ht
      refine ⟨0, x, t, rfl, rfl, ht1, ?_, rfl⟩
      unfold waitB at ht2
      cases hr : t.rs with
      | none => rfl
      | some v => rw [hr] at ht2; cases ht2
    · obtain ⟨k, y, t, h1, h2, h3⟩ := unready_mem h
      exact ⟨k + 1, y, t, h1, by omega, h3⟩
theorem nr_of {s : Sta} {g : Gh} (hg : Good s g) {z : Nat × Nat} (hz : z ∈ under s g.qs) : s.nr = true := by
  obtain ⟨k, x, t, h1, _, h3, _⟩ := unready_mem (hg.un.mem_iff.1 hz)
  have htr : x.tr = true := by
    cases hx : x.tr with
    | true => rfl
    | false =>
      have := (hg.wf.hm x (List.mem_of_getElem? h1)).2.2 hx
      rw [this] at h3; cases h3
  have h4 := (hg.tr k x h1).1 htr
  cases h : s.nr with
  | true => rfl
  | false => rw [hg.nr h] at h4; cases h4
section
variable {s : Sta} {g : Gh} (hg : Good s g) {w : World} (hown : ∀ p ∈ blocks s, w.heap[p.1]? = some p.2) (hnd : (keys (blocks s)).Nodup)
include hg hown hnd
theorem do_step0 (n : Int) : Ctr Tryz.prog 8 [.pointer (some ⟨(s.F 1).1, 0, none⟩), actVal 21 0 0 n] w (blocks s) fun y L' => Did s g L' y (g.qs = [] ∧ potT s.t0 = 0) := by
  have hqn := hg.qn
  have hv := good_v hg
  have hlL := good_lL hg
  have hle := good_e hg
  have hcl := good_calls hg
  have ht0 := hg.t0
  have hll : s.b.lL < 990 := by omega
  have idle : ∀ {y L'}, s.b.rc = 0 → potT s.t0 = 0 → (∃ (J : Nat → List Value) (o : Obj) (Jk : List Ent), L'.Perm (blocks { s with J := J, O := o, b := { s.b with told := vS none 0 0 } } ++ Jk) ∧ WF { s with J := J, O := o, b := { s.b with told := vS none 0 0 } } ∧ ∃ v, y = .tuple #[v, .int .i64 12]) → Did s g L' y (g.qs = [] ∧ potT s.t0 = 0) := fun {y L'} h0 hp ⟨J, o, Jk, h1, h2, v, h3⟩ =>
    .inr ⟨⟨List.eq_nil_of_length_eq_zero (by omega), hp⟩, _, g, Jk, v, h1, { hg with wf := h2 }, rfl, rfl, h3, rfl, rfl, rfl, rfl⟩
  have disp : ∀ {y L'} {q : Qe} {qs : List Qe}, g.qs = q :: qs → potT s.t0 = 0 → s.rg = true → s.nr = true → (∃ (F : Nat → Nat × Nat) (J : Nat → List Value) (o : Obj) (Jk : List Ent),
      let s' : Sta := { s with F := F, t0 := .bak, rg := true, J := J, O := o, b := { s.b with told := vS none 0 0, rf := (s.b.rf + 1) % s.b.lQ, rc := s.b.rc - 1, bfr := q.fr, bseq := q.sq, bcall := q.cl, bn := q.n, rows := updR s.b.rows 7 (setR (s.b.rows 7) (s.b.rf * 25 + 0) zV) } }
      (F 1).1 = (s.F 1).1 ∧ L'.Perm (blocks s' ++ Jk) ∧ WF s' ∧ ∃ v, y = .tuple #[v, .int .i64 0]) → Did s g L' y (g.qs = [] ∧ potT s.t0 = 0) := by
    rintro y L' q qs hq ht hr hn ⟨F, J, o, Jk, h1, h2, h3, v, h4⟩
    have h5 := g_disp hg hq ht hr hn h3 rfl
    exact .inl ⟨_, _, Jk, v, h2, h5.1, h1, rfl, h4, h5.2, rfl, rfl⟩
  have cli : ∀ {y L'}, s.t0 = .cli → (∃ (F : Nat → Nat × Nat) (J : Nat → List Value) (o : Obj) (tl : V1) (Jk : List Ent),
      let s' : Sta := { s with F := F, t0 := .row, J := J, O := o, b := { s.b with v := s.b.v + s.b.fn, lL := s.b.lL + 2, told := tl, rows := updR s.b.rows 1 (s.b.rows 1 ++ (eRun (s.b.v + s.b.fn) s.b.fn ++ eDone s.b.fcl (s.b.v + s.b.fn))) } }
      (F 1).1 = (s.F 1).1 ∧ L'.Perm (blocks s' ++ Jk) ∧ WF s' ∧ ∃ v, y = .tuple #[v, .int .i64 0]) → Did s g L' y (g.qs = [] ∧ potT s.t0 = 0) := by
    rintro y L' ht ⟨F, J, o, tl, Jk, h1, h2, h3, v, h4⟩
    have h5 := g_cli hg ht h3 rfl
    exact .inl ⟨_, _, Jk, v, h2, h5.1, h1, rfl, h4, h5.2, rfl, rfl⟩
  have hnrq : ∀ {q qs}, g.qs = q :: qs → s.rg = true := fun {q qs} hq => by
    cases h : s.rg with
    | true => rfl
    | false => have := (hg.wf.rN h).2; rw [this, hq] at hqn; cases hqn
  have hqc : g.qs = [] ∨ ∃ q qs, g.qs = q :: qs := by
    cases g.qs with
    | nil => exact .inl rfl
    | cons q qs => exact .inr ⟨q, qs, rfl⟩
  cases ht : s.t0 with
  | nil =>
    cases hrg : s.rg with
    | false =>
      obtain ⟨hrf, hrc⟩ := hg.wf.rN hrg
      have eS : ({ s with t0 := .nil, rg := false, b := { s.b with rf := 0, rc := 0 } } : Sta) = s := (by rw [ht, hrg, hrf, hrc] : _ = ({ s with t0 := s.t0, rg := s.rg, b := { s.b with rf := s.b.rf, rc := s.b.rc } } : Sta))
      have := a_s0mn (s := s) (by rw [eS]; exact hg.wf) n (w := w) (by rw [eS]; exact hown) (by rw [eS]; exact hnd)
      rw [eS] at this
      refine this.mono ?_
      rintro y L' ⟨J, o, Jk, h1, h2, v, h3⟩
      have e2 : ({ s with t0 := .nil, rg := false, J := J, O := o, b := { s.b with told := vS none 0 0, rf := 0, rc := 0 } } : Sta) = { s with J := J, O := o, b := { s.b with told := vS none 0 0 } } := (by rw [ht, hrg, hrf, hrc] : _ = ({ s with t0 := s.t0, rg := s.rg, J := J, O := o, b := { s.b with told := vS none 0 0, rf := s.b.rf, rc := s.b.rc } } : Sta))
      exact ht ▸ idle hrc (by rw [ht]; rfl) ⟨J, o, Jk, e2 ▸ h1, e2 ▸ h2, v, h3⟩
    | true =>
      have eS : ({ s with t0 := .nil, rg := true } : Sta) = s := by rw [← ht, ← hrg]
      rcases hqc with hq | ⟨q, qs, hq⟩
      · have hrc : s.b.rc = 0 := by rw [hqn, hq]; rfl
        have := a_s0nn (s := s) (by rw [eS]; exact hg.wf) hrc n (w := w) (by rw [eS]; exact hown) (by rw [eS]; exact hnd)
        rw [eS] at this
        refine this.mono ?_
        rintro y L' ⟨J, o, Jk, h1, h2, v, h3⟩
        have e2 : ({ s with t0 := .nil, rg := true, J := J, O := o, b := { s.b with told := vS none 0 0 } } : Sta) = { s with J := J, O := o, b := { s.b with told := vS none 0 0 } } := by rw [← ht, ← hrg]
        exact ht ▸ idle hrc (by rw [ht]; rfl) ⟨J, o, Jk, e2 ▸ h1, e2 ▸ h2, v, h3⟩
      · obtain ⟨a1, a2, a3, a4⟩ := hg.qr hrg
        have hnr := nr_of hg (z := (q.fr, q.cl)) (List.mem_append_right _ (List.mem_append_left _ (by rw [hq]; exact List.mem_cons_self)))
        have hl1 : 0 < s.b.rc := by rw [hqn, hq]; exact Nat.succ_pos _
        have h0 := a4 0 q (by rw [hq]; rfl)
        have e0 : (s.b.rf + 0) % s.b.lQ = s.b.rf := by rw [Nat.add_zero]; exact Nat.mod_eq_of_lt a2
        rw [e0] at h0
        have hQ12 := hg.wf.bQ
        have := a_s0dn (s := s) (fr := q.fr) (sq := q.sq) (cl := q.cl) (m := q.n) (by rw [eS]; exact hg.wf) hl1 (by omega) a2 h0 n (w := w) (by rw [eS]; exact hown) (by rw [eS]; exact hnd)
        rw [eS] at this
        exact this.mono fun y L' h => ht ▸ disp hq (by rw [ht]; rfl) hrg hnr h
  | row =>
    cases hrg : s.rg with
    | false =>
      obtain ⟨hrf, hrc⟩ := hg.wf.rN hrg
      have eS : ({ s with t0 := .row, rg := false, b := { s.b with rf := 0, rc := 0 } } : Sta) = s := (by rw [ht, hrg, hrf, hrc] : _ = ({ s with t0 := s.t0, rg := s.rg, b := { s.b with rf := s.b.rf, rc := s.b.rc } } : Sta))
      have := a_s0mr (s := s) (by rw [eS]; exact hg.wf) n (w := w) (by rw [eS]; exact hown) (by rw [eS]; exact hnd)
      rw [eS] at this
      refine this.mono ?_
      rintro y L' ⟨J, o, Jk, h1, h2, v, h3⟩
      have e2 : ({ s with t0 := .row, rg := false, J := J, O := o, b := { s.b with told := vS none 0 0, rf := 0, rc := 0 } } : Sta) = { s with J := J, O := o, b := { s.b with told := vS none 0 0 } } := (by rw [ht, hrg, hrf, hrc] : _ = ({ s with t0 := s.t0, rg := s.rg, J := J, O := o, b := { s.b with told := vS none 0 0, rf := s.b.rf, rc := s.b.rc } } : Sta))
      exact ht ▸ idle hrc (by rw [ht]; rfl) ⟨J, o, Jk, e2 ▸ h1, e2 ▸ h2, v, h3⟩
    | true =>
      have eS : ({ s with t0 := .row, rg := true } : Sta) = s := by rw [← ht, ← hrg]
      rcases hqc with hq | ⟨q, qs, hq⟩
      · have hrc : s.b.rc = 0 := by rw [hqn, hq]; rfl
        have := a_s0nr (s := s) (by rw [eS]; exact hg.wf) hrc n (w := w) (by rw [eS]; exact hown) (by rw [eS]; exact hnd)
        rw [eS] at this
        refine this.mono ?_
        rintro y L' ⟨J, o, Jk, h1, h2, v, h3⟩
        have e2 : ({ s with t0 := .row, rg := true, J := J, O := o, b := { s.b with told := vS none 0 0 } } : Sta) = { s with J := J, O := o, b := { s.b with told := vS none 0 0 } } := by rw [← ht, ← hrg]
        exact ht ▸ idle hrc (by rw [ht]; rfl) ⟨J, o, Jk, e2 ▸ h1, e2 ▸ h2, v, h3⟩
      · obtain ⟨a1, a2, a3, a4⟩ := hg.qr hrg
        have hnr := nr_of hg (z := (q.fr, q.cl)) (List.mem_append_right _ (List.mem_append_left _ (by rw [hq]; exact List.mem_cons_self)))
        have hl1 : 0 < s.b.rc := by rw [hqn, hq]; exact Nat.succ_pos _
        have h0 := a4 0 q (by rw [hq]; rfl)
        have e0 : (s.b.rf + 0) % s.b.lQ = s.b.rf := by rw [Nat.add_zero]; exact Nat.mod_eq_of_lt a2
        rw [e0] at h0
        have hQ12 := hg.wf.bQ
        have := a_s0dr (s := s) (fr := q.fr) (sq := q.sq) (cl := q.cl) (m := q.n) (by rw [eS]; exact hg.wf) hl1 (by omega) a2 h0 n (w := w) (by rw [eS]; exact hown) (by rw [eS]; exact hnd)
        rw [eS] at this
        exact this.mono fun y L' h => ht ▸ disp hq (by rw [ht]; rfl) hrg hnr h
  | cli =>
    unfold TOk at ht0; rw [ht] at ht0
    have ht0 : 0 < s.b.fcl ∧ -128 ≤ s.b.fn ∧ s.b.fn ≤ 127 := ht0
    cases hrg : s.rg with
    | false =>
      obtain ⟨hrf, hrc⟩ := hg.wf.rN hrg
      have eS : ({ s with t0 := .cli, rg := false, b := { s.b with rf := 0, rc := 0 } } : Sta) = s := (by rw [ht, hrg, hrf, hrc] : _ = ({ s with t0 := s.t0, rg := s.rg, b := { s.b with rf := s.b.rf, rc := s.b.rc } } : Sta))
      have := a_s0cn (s := s) (by rw [eS]; exact hg.wf) (by omega) (by omega) hll n (w := w) (by rw [eS]; exact hown) (by rw [eS]; exact hnd)
      rw [eS] at this
      refine this.mono ?_
      rintro y L' ⟨F, J, o, tl, Jk, h0, h1, h2, v, h3⟩
      have e2 : ({ s with F := F, t0 := .row, rg := false, J := J, O := o, b := { s.b with v := s.b.v + s.b.fn, lL := s.b.lL + 2, told := tl, rows := updR s.b.rows 1 (s.b.rows 1 ++ (eRun (s.b.v + s.b.fn) s.b.fn ++ eDone s.b.fcl (s.b.v + s.b.fn))), rf := 0, rc := 0 } } : Sta) = { s with F := F, t0 := .row, J := J, O := o, b := { s.b with v := s.b.v + s.b.fn, lL := s.b.lL + 2, told := tl, rows := updR s.b.rows 1 (s.b.rows 1 ++ (eRun (s.b.v + s.b.fn) s.b.fn ++ eDone s.b.fcl (s.b.v + s.b.fn))) } } := (by rw [hrg, hrf, hrc] : _ = ({ s with F := F, t0 := .row, rg := s.rg, J := J, O := o, b := { s.b with v := s.b.v + s.b.fn, lL := s.b.lL + 2, told := tl, rows := updR s.b.rows 1 (s.b.rows 1 ++ (eRun (s.b.v + s.b.fn) s.b.fn ++ eDone s.b.fcl (s.b.v + s.b.fn))), rf := s.b.rf, rc := s.b.rc } } : Sta))
      exact ht ▸ cli ht ⟨F, J, o, tl, Jk, h0, e2 ▸ h1, e2 ▸ h2, v, h3⟩
    | true =>
      have eS : ({ s with t0 := .cli, rg := true } : Sta) = s := by rw [← ht, ← hrg]
      have e2 : ∀ F J o tl, ({ s with F := F, t0 := .row, rg := true, J := J, O := o, b := { s.b with v := s.b.v + s.b.fn, lL := s.b.lL + 2, told := tl, rows := updR s.b.rows 1 (s.b.rows 1 ++ (eRun (s.b.v + s.b.fn) s.b.fn ++ eDone s.b.fcl (s.b.v + s.b.fn))) } } : Sta) = { s with F := F, t0 := .row, J := J, O := o, b := { s.b with v := s.b.v + s.b.fn, lL := s.b.lL + 2, told := tl, rows := updR s.b.rows 1 (s.b.rows 1 ++ (eRun (s.b.v + s.b.fn) s.b.fn ++ eDone s.b.fcl (s.b.v + s.b.fn))) } } := fun F J o tl => by rw [← hrg]
      by_cases hrc : s.b.rc = 0
      · have := a_s0cz (s := s) (by rw [eS]; exact hg.wf) hrc (by omega) (by omega) hll n (w := w) (by rw [eS]; exact hown) (by rw [eS]; exact hnd)
        rw [eS] at this
        refine this.mono ?_
        rintro y L' ⟨F, J, o, tl, Jk, h0, h1, h2, v, h3⟩
        exact ht ▸ cli ht ⟨F, J, o, tl, Jk, h0, e2 F J o tl ▸ h1, e2 F J o tl ▸ h2, v, h3⟩
      · have := a_s0co (s := s) (by rw [eS]; exact hg.wf) (by omega) (by omega) (by omega) hll n (w := w) (by rw [eS]; exact hown) (by rw [eS]; exact hnd)
        rw [eS] at this
        refine this.mono ?_
        rintro y L' ⟨F, J, o, tl, Jk, h0, h1, h2, v, h3⟩
        exact ht ▸ cli ht ⟨F, J, o, tl, Jk, h0, e2 F J o tl ▸ h1, e2 F J o tl ▸ h2, v, h3⟩
  | bak =>
    unfold TOk at ht0; rw [ht] at ht0
    have ht0 : s.rg = true ∧ s.nr = true ∧ 1 ≤ s.b.bfr ∧ s.b.bfr ≤ s.hms.length ∧ s.b.bcall ≤ s.b.calls ∧ -128 ≤ s.b.bn ∧ s.b.bn ≤ 127 := ht0
    have hH := good_H hg
    have hun := good_under hg
    have hub : (unB s).length = 1 := by unfold unB; rw [ht]; rfl
    have h12 : s.net.length < 12 := by omega
    have eS : ({ s with t0 := .bak, nr := true, rg := true } : Sta) = s := (by rw [ht, ht0.1, ht0.2.1] : (fun a b c => ({ s with t0 := a, nr := b, rg := c } : Sta)) T0.bak true true = (fun a b c => ({ s with t0 := a, nr := b, rg := c } : Sta)) s.t0 s.nr s.rg)
    have fin : ∀ {y L'} {q ck : Nat} {l' : List Rd3}, NewS s.sent l' 0 s.b.bfr q → (∃ (F : Nat → Nat × Nat) (J : Nat → List Value) (o : Obj) (tl : V1) (pb pc : Nat) (pj : List Value) (Jk : List Ent),
        let s' : Sta := { s with F := F, t0 := .row, nr := true, rg := true, net := s.net ++ [⟨pb, pc, pj, 2, 0, s.b.bfr, q, s.b.bcall, s.b.v + s.b.bn⟩], sent := l', sck := ck, J := J, O := o, b := { s.b with v := s.b.v + s.b.bn, lL := s.b.lL + 1, lR := s.b.lR + 1, told := tl, rows := updR (updR s.b.rows 1 (s.b.rows 1 ++ eRun (s.b.v + s.b.bn) s.b.bn)) 3 (s.b.rows 3 ++ [Pk.slice ⟨pb, pc, pj, 2, 0, s.b.bfr, q, s.b.bcall, s.b.v + s.b.bn⟩]) } }
        (F 1).1 = (s.F 1).1 ∧ L'.Perm (blocks s' ++ Jk) ∧ WF s' ∧ ∃ v, y = .tuple #[v, .int .i64 0]) → Did s g L' y (g.qs = [] ∧ potT s.t0 = 0) := by
      rintro y L' q ck l' hN ⟨F, J, o, tl, pb, pc, pj, Jk, h1, h2, h3, v, h4⟩
      have h5 := g_bak hg (p := ⟨pb, pc, pj, 2, 0, s.b.bfr, q, s.b.bcall, s.b.v + s.b.bn⟩) ht ⟨rfl, rfl, rfl, rfl, rfl⟩ hN h3 rfl
      exact .inl ⟨_, _, Jk, v, h2, h5.1, h1, rfl, h4, h5.2, rfl, rfl⟩
    have hpk : ∀ {q : Nat}, q < 1000001 → PkB 0 s.b.bfr q s.b.bcall (s.b.v + s.b.bn) := fun {q} hq => ⟨by omega, by omega, by omega, by omega, by omega, by omega, by omega⟩
    cases hs : look 0 s.b.bfr s.sent with
    | none =>
      by_cases hrc : s.b.rc = 0
      · have := a_s0za (s := s) (by rw [eS]; exact hg.wf) hrc hs (hpk (by omega)) (by omega) hll h12 n (w := w) (by rw [eS]; exact hown) (by rw [eS]; exact hnd)
        rw [eS] at this
        exact this.mono fun y L' h => ht ▸ fin (newS_app hs) h
      · have := a_s0ba (s := s) (by rw [eS]; exact hg.wf) (by omega) hs (hpk (by omega)) (by omega) hll h12 n (w := w) (by rw [eS]; exact hown) (by rw [eS]; exact hnd)
        rw [eS] at this
        exact this.mono fun y L' h => ht ▸ fin (newS_app hs) h
    | some q =>
      have hq := hg.ms _ _ _ hs
      by_cases hrc : s.b.rc = 0
      · have := a_s0zp (s := s) (q := q) (by rw [eS]; exact hg.wf) hrc hs (by omega) (hpk (by omega)) (by omega) hll h12 n (w := w) (by rw [eS]; exact hown) (by rw [eS]; exact hnd)
        rw [eS] at this
        exact this.mono fun y L' h => ht ▸ fin (newS_set hs) h
      · have := a_s0bp (s := s) (q := q) (by rw [eS]; exact hg.wf) (by omega) hs (by omega) (hpk (by omega)) (by omega) hll h12 n (w := w) (by rw [eS]; exact hown) (by rw [eS]; exact hnd)
        rw [eS] at this
        exact this.mono fun y L' h => ht ▸ fin (newS_set hs) h
end
end Go.Proofs.YtpcdcemcjbeajaaGreatDoor
end
section
set_option maxHeartbeats 400000
set_option linter.unusedVariables false
set_option linter.unusedSimpArgs false
set_option maxRecDepth 100000
namespace Go.Proofs.YtpcdcemcjbeajaaGreatDoor
open Go Go.RowKit Go.Shelf
theorem nth_true : ∀ {l : List Bool} {c : Nat}, c < l.count true → ∃ j, l[j]? = some true ∧ (l.take j).count true = c
  | [], c, h => by simp at h
  | true :: l, 0, _ => ⟨0, rfl, rfl⟩
  | true :: l, c + 1, h => by
    obtain ⟨j, h1, h2⟩ := nth_true (l := l) (c := c) (by simpa using h)
    exact ⟨j + 1, h1, by simp [h2]⟩
  | false :: l, c, h => by
    obtain ⟨j, h1, h2⟩ := nth_true (l := l) (c := c) (by simpa using h)
    exact ⟨j + 1, h1, by simp [h2]⟩
section
variable {s : Sta} {g : Gh} (hg : Good s g) {w : World} (hown : ∀ p ∈ blocks s, w.heap[p.1]? = some p.2) (hnd : (keys (blocks s)).Nodup)
include hg hown hnd
theorem do_stepI {i : Nat} (hi1 : 1 ≤ i) (hi2 : i ≤ s.hms.length) {n : Int} (hn : 0 ≤ n) : Ctr Tryz.prog 8 [.pointer (some ⟨(s.F 1).1, 0, none⟩), actVal 21 (i : Int) 0 n] w (blocks s) fun y L' => Did s g L' y True := by
  obtain ⟨k1, h, k2, hh, rfl⟩ := home_of hi1 hi2
  have eS := eqH hh
  have h0 := hg.hm h (by rw [hh]; simp)
  have hz : ∀ t ∈ h.ths, t.wt ≠ 0 := fun t ht => Nat.ne_of_gt (h0.th t ht).1
  have same : ∀ {y L'}, (∃ (J : Nat → List Value) (o : Obj) (K : Nat → List Value) (Jk : List Ent),
      let s' : Sta := { s with hms := k1 ++ { h with J := K } :: k2, J := J, O := o, b := { s.b with told := vS none 0 0 } }
      L'.Perm (blocks s' ++ Jk) ∧ WF s' ∧ ∃ v, y = .tuple #[v, .int .i64 12]) → Did s g L' y True := by
    rintro y L' ⟨J, o, K, Jk, h1, h2, v, h3⟩
    have h4 := g_same hg (h' := { h with J := K }) hh rfl rfl rfl rfl h2 rfl
    refine .inr ⟨trivial, _, g, Jk, v, h1, h4, rfl, by show (k1 ++ _ :: k2).length = _; rw [hh]; exact len_mid2, h3, rfl, rfl, rfl, ?_⟩
    show sumN (s.net.map potP) + (4 * g.qs.length + (potT s.t0 + sumN ((k1 ++ { h with J := K } :: k2).map potH))) = potN s g.qs
    unfold potN
    rw [hh, potH_mid, potH_mid]; rfl
  cases htr : h.tr with
  | false =>
    have := a_si0 (s := s) htr (by rw [eS]; exact hg.wf) h0.n4 n (w := w) (by rw [eS]; exact hown) (by rw [eS]; exact hnd)
    rw [eS] at this
    exact this.mono fun y L' h => same h
  | true =>
    by_cases hc : (rdy h.ths).count true = 0
    · have hno : ∀ t ∈ h.ths, t.rs = none := fun t ht => by
        cases hr : t.rs with
        | none => rfl
        | some v => exact absurd (List.mem_map.2 ⟨t, ht, by rw [hr]; rfl⟩) (List.count_eq_zero.1 hc)
      have := a_siN (s := s) htr (by rw [eS]; exact hg.wf) h0.n4 hz hno n (w := w) (by rw [eS]; exact hown) (by rw [eS]; exact hnd)
      rw [eS] at this
      exact this.mono fun y L' h => same h
    · have hb1 := Int.tmod_lt_of_pos n (b := (((rdy h.ths).count true : Nat) : Int)) (by omega)
      have hb2 := Int.tmod_nonneg (((rdy h.ths).count true : Nat) : Int) hn
      obtain ⟨j, hj1, hj2⟩ := nth_true (l := rdy h.ths) (c := (n.tmod ((rdy h.ths).count true : Nat)).toNat) (by omega)
      unfold rdy at hj1
      rw [List.getElem?_map] at hj1
      cases hj : h.ths[j]? with
      | none => rw [hj] at hj1; cases hj1
      | some t =>
        rw [hj] at hj1
        have hj1 : some t.rs.isSome = some true := hj1
        cases hr : t.rs with
        | none => rw [hr] at hj1; cases hj1
        | some v =>
          have hll : s.b.lL < 990 := by have := good_lL hg; have := good_e hg; omega
          have := a_siR (s := s) (n := n) htr (by rw [eS]; exact hg.wf) h0.n4 hz hj hr (Nat.ne_of_gt (h0.th t (List.mem_of_getElem? hj)).2.2.1) (by omega) hll (w := w) (by rw [eS]; exact hown) (by rw [eS]; exact hnd)
          rw [eS] at this
          refine this.mono ?_
          rintro y L' ⟨F, J, o, tl, K, Jk, h1, h2, h3, u, h4⟩
          have h5 := g_siR hg hh hj hr h3 rfl
          exact .inl ⟨_, _, Jk, u, h2, h5.1, h1, by show (k1 ++ _ :: k2).length = _; rw [hh]; exact len_mid2, h4, h5.2, rfl, rfl⟩
def Cld (s : Sta) (g : Gh) (n : Int) (L' : List Ent) (y : Value) : Prop := Left s g L' y 0 (fun s' g' => g'.sum = g.sum + n ∧ g'.nc = g.nc + 1) ∨ Left s g L' y 9 (fun s' g' => g' = g)
theorem do_call0 {n : Int} (hnc : g.nc < 40) (hn : -128 ≤ n ∧ n ≤ 127) : Ctr Tryz.prog 8 [.pointer (some ⟨(s.F 1).1, 0, none⟩), actVal 5 0 4294967298 n] w (blocks s) fun y L' => Cld s g n L' y := by
  have hll : s.b.lL < 990 := by have := good_lL hg; have := good_e hg; omega
  have hcl : s.b.calls < 1000000 := by have := good_calls hg; omega
  have go : ∀ {y L'}, potT s.t0 = 0 → (∃ (F : Nat → Nat × Nat) (J : Nat → List Value) (o : Obj) (tl : V1) (Jk : List Ent),
      let s' : Sta := { s with F := F, t0 := .cli, J := J, O := o, b := { s.b with calls := s.b.calls + 1, lL := s.b.lL + 1, fn := n, fcl := s.b.calls + 1, told := tl, rows := updR s.b.rows 1 (s.b.rows 1 ++ eCall (s.b.calls + 1)) } }
      (F 1).1 = (s.F 1).1 ∧ L'.Perm (blocks s' ++ Jk) ∧ WF s' ∧ ∃ v, y = .tuple #[v, .int .i64 0]) → Cld s g n L' y := by
    rintro y L' ht ⟨F, J, o, tl, Jk, h1, h2, h3, v, h4⟩
    exact .inl ⟨_, _, Jk, v, h2, g_c0 hg ht hnc hn h3 rfl, h1, rfl, h4, rfl, rfl⟩
  have no : ∀ {y L'}, (∃ (J : Nat → List Value) (o : Obj) (Jk : List Ent), L'.Perm (blocks { s with J := J, O := o, b := { s.b with told := vS none 0 0 } } ++ Jk) ∧ WF { s with J := J, O := o, b := { s.b with told := vS none 0 0 } } ∧ ∃ v, y = .tuple #[v, .int .i64 9]) → Cld s g n L' y := by
    rintro y L' ⟨J, o, Jk, h1, h2, v, h3⟩
    exact .inr ⟨_, g, Jk, v, h1, { hg with wf := h2 }, rfl, rfl, h3, rfl⟩
  cases ht : s.t0 with
  | nil =>
    have eS : ({ s with t0 := .nil } : Sta) = s := by rw [← ht]
    have := a_c0n (s := s) (by rw [eS]; exact hg.wf) hcl hll n (w := w) (by rw [eS]; exact hown) (by rw [eS]; exact hnd)
    rw [eS] at this
    exact this.mono fun y L' h => go (by rw [ht]; rfl) h
  | row =>
    have eS : ({ s with t0 := .row } : Sta) = s := by rw [← ht]
    have := a_c0r (s := s) (by rw [eS]; exact hg.wf) hcl hll n (w := w) (by rw [eS]; exact hown) (by rw [eS]; exact hnd)
    rw [eS] at this
    exact this.mono fun y L' h => go (by rw [ht]; rfl) h
  | cli =>
    have eS : ({ s with t0 := .cli } : Sta) = s := by rw [← ht]
    have := a_c0bc (s := s) (by rw [eS]; exact hg.wf) n (w := w) (by rw [eS]; exact hown) (by rw [eS]; exact hnd)
    rw [eS] at this
    refine this.mono ?_
    rintro y L' ⟨J, o, Jk, h1, h2, v, h3⟩
    have e2 : ({ s with t0 := .cli, J := J, O := o, b := { s.b with told := vS none 0 0 } } : Sta) = { s with J := J, O := o, b := { s.b with told := vS none 0 0 } } := by rw [← ht]
    exact no ⟨J, o, Jk, e2 ▸ h1, e2 ▸ h2, v, h3⟩
  | bak =>
    have eS : ({ s with t0 := .bak } : Sta) = s := by rw [← ht]
    have := a_c0bb (s := s) (by rw [eS]; exact hg.wf) n (w := w) (by rw [eS]; exact hown) (by rw [eS]; exact hnd)
    rw [eS] at this
    refine this.mono ?_
    rintro y L' ⟨J, o, Jk, h1, h2, v, h3⟩
    have e2 : ({ s with t0 := .bak, J := J, O := o, b := { s.b with told := vS none 0 0 } } : Sta) = { s with J := J, O := o, b := { s.b with told := vS none 0 0 } } := by rw [← ht]
    exact no ⟨J, o, Jk, e2 ▸ h1, e2 ▸ h2, v, h3⟩
theorem do_callI {i : Nat} (hi1 : 1 ≤ i) (hi2 : i ≤ s.hms.length) {n : Int} (hnc : g.nc < 40) (hn : -128 ≤ n ∧ n ≤ 127) : Ctr Tryz.prog 8 [.pointer (some ⟨(s.F 1).1, 0, none⟩), actVal 5 (i : Int) 4294967297 n] w (blocks s) fun y L' => Cld s g n L' y := by
  obtain ⟨k1, h, k2, hh, rfl⟩ := home_of hi1 hi2
  have eS := eqH hh
  have h0 := hg.hm h (by rw [hh]; simp)
  have hH := good_H hg
  have hll : s.b.lL < 990 := by have := good_lL hg; have := good_e hg; omega
  have hc80 := good_calls hg
  have htr0 := hg.tr k1.length h (by rw [hh]; exact get_at)
  have hrm := hg.wf.hm h (by rw [hh]; simp)
  by_cases hbz : h.many = true ∧ h.ths.length = 4 ∨ h.many = false ∧ h.ths.length ≠ 0
  · have htr : h.tr = true := by
      cases hx : h.tr with
      | true => rfl
      | false =>
        have e := hrm.2.2 hx
        rcases hbz with ⟨_, h1⟩ | ⟨_, h1⟩ <;> rw [e] at h1 <;> simp at h1
    have := a_cb (s := s) htr (by rw [eS]; exact hg.wf) h0.n4 hbz n (w := w) (by rw [eS]; exact hown) (by rw [eS]; exact hnd)
    rw [eS] at this
    refine this.mono ?_
    rintro y L' ⟨J, o, K, Jk, h1, h2, v, h3⟩
    have h4 := g_same hg (h' := { h with J := K }) hh rfl rfl rfl rfl h2 rfl
    exact .inr ⟨_, g, Jk, v, h1, h4, rfl, by show (k1 ++ _ :: k2).length = _; rw [hh]; exact len_mid2, h3, rfl⟩
  · have hfree : (h.many = true → h.ths.length < 4) ∧ (h.many = false → h.ths.length = 0) := by
      have h4 := h0.n4
      refine ⟨fun hm => ?_, fun hm => ?_⟩
      · by_cases he : h.ths.length = 4
        · exact absurd (.inl ⟨hm, he⟩) hbz
        · omega
      · by_cases he : h.ths.length = 0
        · exact he
        · exact absurd (.inr ⟨hm, he⟩) hbz
    have h3 : h.ths.length ≤ 3 := by
      cases hm : h.many with
      | true => have := hfree.1 hm; omega
      | false => have := hfree.2 hm; omega
    have h12 : s.net.length < 12 := by
      have h1 := hg.un.length_eq
      have h2 : (unready 1 s.hms).length ≤ 4 * s.hms.length - 1 := by
        rw [hh, unready_app, List.length_append, List.length_append]
        have a1 := unready_len (l := k1) (i := 1) fun x hx => (hg.hm x (by rw [hh]; simp [hx])).n4
        have a2 := unready_len (l := k2) (i := 1 + k1.length + 1) fun x hx => (hg.hm x (by rw [hh]; simp [hx])).n4
        have a3 := unT_len (1 + k1.length) h.ths
        rw [List.length_append, List.length_cons]
        omega
      unfold under at h1
      rw [List.length_append, List.length_map] at h1
      omega
    have hlk : h.tr = true → s.nr = true := fun hx => by
      have h4 := htr0.1 hx
      cases h5 : s.nr with
      | true => rfl
      | false => rw [hg.nr h5] at h4; cases h4
    have main : ∀ {q ck : Nat} {l' : List Rd3}, (h.tr = false ∧ look (k1.length + 1) 0 s.sent = none ∧ l' = s.sent ++ [(k1.length + 1, 0, 1, s.sck)] ∧ ck = s.sck + 1 ∧ q = 0 ∨ h.tr = true ∧ look (k1.length + 1) 0 s.sent = some q ∧ l' = setL (k1.length + 1) 0 (q + 1) s.sent ∧ ck = s.sck) → q ≤ 446 → NewS s.sent l' (k1.length + 1) 0 (q + 1) → Ctr Tryz.prog 8 [.pointer (some ⟨(s.F 1).1, 0, none⟩), actVal 5 ((k1.length + 1 : Nat) : Int) 4294967297 n] w (blocks s) fun y L' => Cld s g n L' y := by
      intro q ck l' hs hq hN
      have hk1 : k1.length + 1 ≤ s.hms.length := hi2
      have := a_ci (s := s) (n := n) (by rw [eS]; exact hg.wf) h3 h0.lh hfree.2 hlk hs (by omega) (by omega) hll h12 ⟨by omega, by omega, by omega, by omega, by omega, by omega, by omega⟩ (w := w) (by rw [eS]; exact hown) (by rw [eS]; exact hnd)
      rw [eS] at this
      refine this.mono ?_
      rintro y L' ⟨F, J, o, tl, hF, K, r, u, pb, pc, pj, Jk, h1, h2, h3, v, h4⟩
      have h5 := g_ci hg (p := ⟨pb, pc, pj, 1, k1.length + 1, 0, q + 1, s.b.calls + 1, n⟩) hh hnc hn (h' := { h with F := hF, J := K, tr := true, ths := h.ths ++ [⟨r, u, s.b.calls + 1, s.b.calls + 2, none⟩] }) rfl rfl rfl rfl hfree ⟨rfl, rfl, rfl, rfl, rfl⟩ hN h3 rfl
      exact .inl ⟨_, _, Jk, v, h2, h5, h1, by show (k1 ++ _ :: k2).length = _; rw [hh]; exact len_mid2, h4, rfl, rfl⟩
    cases hs : look (k1.length + 1) 0 s.sent with
    | none =>
      have htr : h.tr = false := by
        cases hx : h.tr with
        | false => rfl
        | true => have := htr0.1 hx; rw [hs] at this; cases this
      exact main (q := 0) (.inl ⟨htr, hs, rfl, rfl, rfl⟩) (by omega) (newS_app hs)
    | some q =>
      have htr : h.tr = true := htr0.2 (by rw [hs]; rfl)
      exact main (.inr ⟨htr, hs, rfl, rfl⟩) (by have := hg.ms _ _ _ hs; have := good_e hg; omega) (newS_set hs)
end
end Go.Proofs.YtpcdcemcjbeajaaGreatDoor
end
section
set_option linter.unusedVariables false
set_option linter.unusedSimpArgs false
set_option maxRecDepth 100000
namespace Go.Proofs.YtpcdcemcjbeajaaGreatDoor
open Go Go.RowKit Go.Shelf
structure At (s : Sta) (g : Gh) (gb H : Nat) : Prop where
  good : Good s g
  F : (s.F 1).1 = gb
  H : s.hms.length = H
def actC (kind at_ ref n : Int) : List Value := [.int .i64 kind, .int .i64 at_, .int .u64 ref, .int .u64 0, .int .u8 0, .int .u8 0, .int .u8 0, .int .u8 0, .int .u8 0, .int .u8 0, .int .u8 0, .int .u8 0, .int .u8 0, .int .u8 0, .int .u8 0, .int .u8 0, .int .u8 0, .int .u8 0, .int .u8 0, .int .u8 0, .int .i64 0, .int .u8 0, .int .u8 0, .int .u8 0, .int .u8 0, .int .u8 0, .int .u8 0, .int .u8 0, .int .u8 0, .int .u8 0, .int .u8 0, .int .u8 0, .int .u8 0, .int .u8 0, .int .u8 0, .int .u8 0, .int .u8 0, .string ⟨⟨[]⟩⟩, .int .u64 0, .slice none 0 0, .int .i64 n, .int .i64 0, .bool false]
theorem bld22 (w : World) : (Instr.build 37 #[(0, .int .i64 22)]).run Tryz.prog w = .ok (.agg (actC 22 0 0 0).toArray) w := by kernel_rfl
theorem bld22n (n : Int) (w : World) : (Instr.build 37 #[(0, .int .i64 22), (6, .int .i64 n)]).run Tryz.prog w = .ok (.agg (actC 22 0 0 n).toArray) w := by kernel_rfl
theorem bld21 (a : Int) (w : World) : (Instr.build 37 #[(0, .int .i64 21), (1, .int .i64 a)]).run Tryz.prog w = .ok (.agg (actC 21 a 0 0).toArray) w := by kernel_rfl
theorem bld21n (a n : Int) (w : World) : (Instr.build 37 #[(0, .int .i64 21), (1, .int .i64 a), (6, .int .i64 n)]).run Tryz.prog w = .ok (.agg (actC 21 a 0 n).toArray) w := by kernel_rfl
theorem bld5 (a r n : Int) (w : World) : (Instr.build 37 #[(0, .int .i64 5), (1, .int .i64 a), (2, .int .u64 r), (6, .int .i64 n)]).run Tryz.prog w = .ok (.agg (actC 5 a r n).toArray) w := by kernel_rfl
section
variable {s : Sta} {g : Gh} {gb H : Nat} (ha : At s g gb H)
include ha
theorem gE (LH : List Ent) : HasE gb (cel 42 [.pointer (some ⟨(s.F 2).1, 0, none⟩), .int .i64 ((H + 1 : Nat) : Int), .slice (some ⟨(s.F 5).1, 0, none⟩) g.evs.length (s.F 5).2]) (blocks s ++ LH) := ⟨by
  have h1 : s.b.H = H + 1 := by rw [ha.good.wf.bH, ha.H]
  have h2 := good_lL ha.good
  refine List.mem_append_left _ (List.mem_append_right _ (List.mem_append_left _ ?_))
  rw [← ha.F, ← h1, ← h2]
  exact List.mem_cons_self⟩
theorem evsE (LH : List Ent) : HasE (s.F 5).1 (cel 50 (vals (g.evs.flatMap Ew.cells) ++ s.J 5)) (blocks s ++ LH) := ⟨by
  refine List.mem_append_left _ (List.mem_append_right _ (List.mem_append_right _ (List.mem_append_left _ ?_)))
  rw [← ha.good.r1]
  exact List.mem_cons_self⟩
variable {w : World} (hown : ∀ p ∈ blocks s, w.heap[p.1]? = some p.2) (hnd : (keys (blocks s)).Nodup)
include hown hnd
theorem c_deliver (n : Int) : Ctr Tryz.prog 8 [.pointer (some ⟨gb, 0, none⟩), actVal 22 0 0 n] w (blocks s) fun y L' => ∃ (s2 : Sta) (g2 : Gh) (v : Value) (c : Nat), y = .tuple #[v, .int .i64 (c : Int)] ∧ (∃ Jk, L'.Perm (blocks s2 ++ Jk)) ∧ At s2 g2 gb H ∧ g2.sum = g.sum ∧ g2.nc = g.nc ∧ (c = 0 ∧ potN s2 g2.qs + 1 = potN s g.qs ∨ c = 12 ∧ s.net = [] ∧ g2 = g ∧ s2.net = s.net ∧ s2.t0 = s.t0 ∧ potN s2 g2.qs = potN s g.qs) := by
  have h0 := do_deliver ha.good hown hnd n
  rw [ha.F] at h0
  refine h0.mono ?_
  rintro y L' (⟨s2, g2, Jk, v, h1, h2, h3, h4, h5, h6, h7, h8⟩ | ⟨hi, s2, g2, Jk, v, h1, h2, h3, h4, h5, h6, h7, h8, h9⟩)
  · exact ⟨s2, g2, v, 0, h5, ⟨Jk, h1⟩, ⟨h2, h3.trans ha.F, h4.trans ha.H⟩, h7, h8, .inl ⟨rfl, h6⟩⟩
  · exact ⟨s2, g2, v, 12, h5, ⟨Jk, h1⟩, ⟨h2, h3.trans ha.F, h4.trans ha.H⟩, by rw [h6], by rw [h6], .inr ⟨rfl, hi, h6, h7, h8, by rw [h6]; exact h9⟩⟩
theorem c_step {a : Nat} (hat : a ≤ H) {n : Int} (hn : 0 ≤ n) : Ctr Tryz.prog 8 [.pointer (some ⟨gb, 0, none⟩), actVal 21 (a : Int) 0 n] w (blocks s) fun y L' => ∃ (s2 : Sta) (g2 : Gh) (v : Value) (c : Nat), y = .tuple #[v, .int .i64 (c : Int)] ∧ (∃ Jk, L'.Perm (blocks s2 ++ Jk)) ∧ At s2 g2 gb H ∧ g2.sum = g.sum ∧ g2.nc = g.nc ∧ (c = 0 ∧ potN s2 g2.qs + 1 = potN s g.qs ∨ c = 12 ∧ (a = 0 → g.qs = [] ∧ potT s.t0 = 0) ∧ g2 = g ∧ s2.net = s.net ∧ s2.t0 = s.t0 ∧ potN s2 g2.qs = potN s g.qs) := by
  have key : ∀ {I : Prop} {y L'}, Did s g L' y I → (I → a = 0 → g.qs = [] ∧ potT s.t0 = 0) → ∃ (s2 : Sta) (g2 : Gh) (v : Value) (c : Nat), y = .tuple #[v, .int .i64 (c : Int)] ∧ (∃ Jk, L'.Perm (blocks s2 ++ Jk)) ∧ At s2 g2 gb H ∧ g2.sum = g.sum ∧ g2.nc = g.nc ∧ (c = 0 ∧ potN s2 g2.qs + 1 = potN s g.qs ∨ c = 12 ∧ (a = 0 → g.qs = [] ∧ potT s.t0 = 0) ∧ g2 = g ∧ s2.net = s.net ∧ s2.t0 = s.t0 ∧ potN s2 g2.qs = potN s g.qs) := by
    rintro I y L' (⟨s2, g2, Jk, v, h1, h2, h3, h4, h5, h6, h7, h8⟩ | ⟨hi, s2, g2, Jk, v, h1, h2, h3, h4, h5, h6, h7, h8, h9⟩) hI
    · exact ⟨s2, g2, v, 0, h5, ⟨Jk, h1⟩, ⟨h2, h3.trans ha.F, h4.trans ha.H⟩, h7, h8, .inl ⟨rfl, h6⟩⟩
    · exact ⟨s2, g2, v, 12, h5, ⟨Jk, h1⟩, ⟨h2, h3.trans ha.F, h4.trans ha.H⟩, by rw [h6], by rw [h6], .inr ⟨rfl, hI hi, h6, h7, h8, by rw [h6]; exact h9⟩⟩
  by_cases h : a = 0
  · subst h
    have h0 := do_step0 ha.good hown hnd n
    rw [ha.F] at h0
    exact h0.mono fun y L' h => key h fun hi _ => hi
  · have h0 := do_stepI ha.good hown hnd (i := a) (by omega) (by rw [ha.H]; exact hat) hn
    rw [ha.F] at h0
    exact h0.mono fun y L' h1 => key h1 fun _ h2 => absurd h2 h
theorem c_call {a : Nat} (hat : a ≤ H) {n : Int} (hnc : g.nc < 40) (hn : -128 ≤ n ∧ n ≤ 127) : Ctr Tryz.prog 8 [.pointer (some ⟨gb, 0, none⟩), actVal 5 (a : Int) ((cond (Nat.beq a 0) 4294967298 4294967297 : Nat) : Int) n] w (blocks s) fun y L' => ∃ (s2 : Sta) (g2 : Gh) (v : Value) (c : Nat), y = .tuple #[v, .int .i64 (c : Int)] ∧ (∃ Jk, L'.Perm (blocks s2 ++ Jk)) ∧ At s2 g2 gb H ∧ (c = 0 ∧ g2.sum = g.sum + n ∧ g2.nc = g.nc + 1 ∨ c = 9 ∧ g2 = g) := by
  have key : ∀ {y L'}, Cld s g n L' y → ∃ (s2 : Sta) (g2 : Gh) (v : Value) (c : Nat), y = .tuple #[v, .int .i64 (c : Int)] ∧ (∃ Jk, L'.Perm (blocks s2 ++ Jk)) ∧ At s2 g2 gb H ∧ (c = 0 ∧ g2.sum = g.sum + n ∧ g2.nc = g.nc + 1 ∨ c = 9 ∧ g2 = g) := by
    rintro y L' (⟨s2, g2, Jk, v, h1, h2, h3, h4, h5, h6, h7⟩ | ⟨s2, g2, Jk, v, h1, h2, h3, h4, h5, h6⟩)
    · exact ⟨s2, g2, v, 0, h5, ⟨Jk, h1⟩, ⟨h2, h3.trans ha.F, h4.trans ha.H⟩, .inl ⟨rfl, h6, h7⟩⟩
    · exact ⟨s2, g2, v, 9, h5, ⟨Jk, h1⟩, ⟨h2, h3.trans ha.F, h4.trans ha.H⟩, .inr ⟨rfl, h6⟩⟩
  by_cases h : a = 0
  · subst h
    have h0 := do_call0 ha.good hown hnd hnc hn
    rw [ha.F] at h0
    exact h0.mono fun y L' h => key h
  · have h0 := do_callI ha.good hown hnd (i := a) (by omega) (by rw [ha.H]; exact hat) hnc hn
    rw [ha.F] at h0
    have hb : Nat.beq a 0 = false := by
      cases hb : Nat.beq a 0 with
      | false => rfl
      | true => exact absurd (Nat.eq_of_beq_eq_true hb) h
    rw [hb]
    exact h0.mono fun y L' h => key h
end
end Go.Proofs.YtpcdcemcjbeajaaGreatDoor
end

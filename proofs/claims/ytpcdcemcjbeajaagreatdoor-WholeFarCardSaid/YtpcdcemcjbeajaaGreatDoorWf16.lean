/- WholeFar: FarQ. -/
import Derived.Test.YtpcdcemcjbeajaaGreatDoorWf15
set_option linter.unusedVariables false
set_option linter.unusedSimpArgs false
set_option maxRecDepth 100000
namespace Go.Proofs.YtpcdcemcjbeajaaGreatDoor
open Go Go.RowKit Go.Shelf
noncomputable def wtS (j : Nat) (r x : S) : Nat → Nat → List (S × S)
  | _, 0 => []
  | i, k + 1 => cond (Nat.beq i j) (r, x) (rdT i, tK (47 + i)) :: wtS j r x (i + 1) k
noncomputable def eqF (j : Nat) : Nat → Nat → List TbE
  | _, 0 => []
  | i, k + 1 => .bin .eql (tK (39 + i)) (tK 22) (.b (Nat.beq i j)) :: eqF j (i + 1) k
noncomputable def drT (j : Nat) (neg : Bool) : List TbE := f24 :: (cond neg [f43, f44, f45] [f25, f26] ++ (f27 :: f46 :: f47 :: f30 :: f31 :: f32 :: f33 :: f34 :: f35 :: (eqF j 0 (j + 1) ++ [.bin .neq (tK (39 + j)) (iU 0) bT])))
noncomputable def drV : List V := [.s (pP 1 0), actV 22 (iI 0) (iU 0) (tK 3)]
noncomputable def drE (k j : Nat) : List (Nm × O) := comE ++ (netR ++ (pkR ++ hmS k (rowS 0 k) (thsS 0 (wtS j bF (iI 0) 0 k))))
noncomputable def drP (k j : Nat) : List (Nm × O) := b0 :: b1 :: b35 :: b3 :: b4 :: b75 :: b76 :: b37 :: b77 :: b94 :: hmS k (rowS 0 k) (thsS 0 (wtS j bT (tK 25) 0 k))
noncomputable def drR (neg : Bool) (k j : Nat) : Bool := okR (.t [.s xsn, .s (iI 0)]) drV ((mn 0, .tb (drT j neg)) :: drE k j) ((mn 0, .tb (drT j neg)) :: drP k j)
theorem r_drp : ((List.range 5).all fun k => (List.range k).all fun j => drR false k j) = true := by decide +kernel
theorem r_drn : ((List.range 5).all fun k => (List.range k).all fun j => drR true k j) = true := by decide +kernel
theorem r_dr {neg : Bool} {k j : Nat} (hk : k < 5) (hj : j < k) : drR neg k j = true := by
  cases neg
  · exact List.all_eq_true.1 (List.all_eq_true.1 r_drp k (List.mem_range.2 hk)) j (List.mem_range.2 hj)
  · exact List.all_eq_true.1 (List.all_eq_true.1 r_drn k (List.mem_range.2 hk)) j (List.mem_range.2 hj)
theorem wt_fit {D : Dt} {j : Nat} {r x : S} : ∀ {ths : List Th} {i : Nat}, (∀ k t, ths[k]? = some t → (i + k = j → Fit2 D t (r, x)) ∧ (i + k ≠ j → Fit2 D t (rdT (i + k), tK (47 + (i + k))))) → All2 (Fit2 D) ths (wtS j r x i ths.length)
  | [], _, _ => trivial
  | t :: ths, i, h => by
    have h0 := h 0 t rfl
    refine ⟨?_, wt_fit (i := i + 1) fun k t hk => by have := h (k + 1) t hk; rwa [show i + (k + 1) = i + 1 + k by omega] at this⟩
    show Fit2 D t (cond (Nat.beq i j) (r, x) (rdT i, tK (47 + i)))
    cases hb : Nat.beq i j with
    | true => exact h0.1 (Nat.eq_of_beq_eq_true hb)
    | false => exact h0.2 (Nat.ne_of_beq_eq_false hb)
theorem wt_okP {D : Dt} {j : Nat} {r x : S} (h : okP D (r, x)) : ∀ {k i : Nat}, ∀ q ∈ wtS j r x i k, okP D q
  | 0, _, q, hq => absurd (show q ∈ [] from hq) List.not_mem_nil
  | k + 1, i, q, hq => by
    rcases List.mem_cons.1 hq with rfl | hq
    · show okP D (cond (Nat.beq i j) (r, x) (rdT i, tK (47 + i)))
      cases Nat.beq i j
      · refine ⟨?_, rfl⟩
        match i with
        | 0 => rfl
        | 1 => rfl
        | 2 => rfl
        | i + 3 => rfl
      · exact h
    · exact wt_okP h q hq
theorem eq_ok {D : Dt} {j c : Nat} (hc : D.tk.val 22 = .int .u64 (c : Int)) : ∀ {m i : Nat}, (∀ k, k < m → ∃ wt : Nat, D.tk.val (39 + (i + k)) = .int .u64 (wt : Int) ∧ (i + k = j → wt = c) ∧ (i + k ≠ j → wt ≠ c)) → AllP ((eqF j i m).map (TbOk D.tk))
  | 0, _, _ => trivial
  | m + 1, i, h => by
    obtain ⟨wt, h1, h2, h3⟩ := h 0 (by omega)
    refine ⟨?_, eq_ok hc (m := m) (i := i + 1) fun k hk => by have := h (k + 1) (by omega); rwa [show i + (k + 1) = i + 1 + k by omega] at this⟩
    show TbOk D.tk (.bin .eql (tK (39 + i)) (tK 22) (.b (Nat.beq i j)))
    cases hb : Nat.beq i j with
    | true => exact tb_t (i := .u64) (a := (wt : Int)) (b := (c : Int)) rfl (congrArg some h1) (congrArg some hc) (by show (wt : Int) = c; rw [h2 (Nat.eq_of_beq_eq_true hb)])
    | false => exact tb_f (i := .u64) (a := (wt : Int)) (b := (c : Int)) rfl (congrArg some h1) (congrArg some hc) (by have := h3 (Nat.ne_of_beq_eq_false hb); show ¬ ((wt : Int) = c); omega)
theorem slice_set {ths : List Th} {j : Nat} {t : Th} {v : Option Int} (h : ths[j]? = some t) : (ths.set j { t with rs := v }).map Th.slice = ths.map Th.slice := by
  rw [List.map_set]
  have h2 : (ths.map Th.slice)[j]? = some t.slice := by rw [List.getElem?_map, h]; rfl
  rw [show Th.slice { t with rs := v } = t.slice from rfl]
  exact set_id h2
theorem a_dr {s : Sta} {k1 k2 : List Hm} {h : Hm} (htr : h.tr = true) {l1 l2 : List Pk} {p : Pk} (hw : WF { s with nr := true, net := l1 ++ p :: l2, hms := k1 ++ h :: k2 }) (h4 : h.ths.length ≤ 4) {j : Nat} {t : Th} {n : Int} (hj : h.ths[j]? = some t) (hv : t.rs = none) (hwt : t.wt = p.call) (hz : t.wt ≠ 0) (hlt : ∀ i u, i < j → h.ths[i]? = some u → u.wt ≠ p.call) (hkd : p.kd = 2) (hto : p.to = k1.length + 1) (hk : n.tmod (s.b.lR : Int) = (l1.length : Int) ∨ n.tmod (s.b.lR : Int) < 0 ∧ n.tmod (s.b.lR : Int) + (s.b.lR : Int) = (l1.length : Int)) (hc : cmK p.fr p.to p.seq s.came = false) (hp : PkB p.fr p.to p.seq p.call p.n) {w : World} (hown : ∀ q ∈ blocks { s with nr := true, net := l1 ++ p :: l2, hms := k1 ++ h :: k2 }, w.heap[q.1]? = some q.2) (hnd : (keys (blocks { s with nr := true, net := l1 ++ p :: l2, hms := k1 ++ h :: k2 })).Nodup) :
    Ctr Tryz.prog 8 [.pointer (some ⟨(s.F 1).1, 0, none⟩), actVal 22 0 0 n] w (blocks { s with nr := true, net := l1 ++ p :: l2, hms := k1 ++ h :: k2 }) fun y L' => ∃ (J : Nat → List Value) (o : Obj) (K : Nat → List Value) (Jk : List Ent),
      let s' : Sta := { s with nr := true, net := l1 ++ l2, came := s.came ++ [(p.fr, p.to, p.seq, s.cck)], cck := s.cck + 1, hms := k1 ++ { h with J := K, ths := h.ths.set j { t with rs := some p.n } } :: k2, J := J, O := o, b := { s.b with told := vS none 0 0, lR := s.b.lR - 1, rows := updR s.b.rows 3 (cutR (s.b.rows 3) l1.length) } }
      L'.Perm (blocks s' ++ Jk) ∧ WF s' ∧ ∃ v, y = .tuple #[v, .int .i64 0] := by
  obtain ⟨gF, gJ, hs, hl, lh, many, tr, ths⟩ := h
  obtain ⟨pb, pc, pj, kd, fr, to, sq, cl, m⟩ := p
  have htr : tr = true := htr
  have hkd : kd = 2 := hkd
  have hto : to = k1.length + 1 := hto
  subst htr hkd hto
  have hj : ths[j]? = some t := hj
  have hjl : j < ths.length := (List.getElem?_eq_some_iff.1 hj).1
  have h4 : ths.length ≤ 4 := h4
  obtain ⟨hmh, hrow, r22, r25, r27, r29⟩ := siH (s := { s with nr := true, net := l1 ++ ⟨pb, pc, pj, 2, fr, k1.length + 1, sq, cl, m⟩ :: l2 }) hw
  have hmh : k1.length + 1 < s.b.H := hmh
  have hlm := len_mid l1 l2 ⟨pb, pc, pj, 2, fr, k1.length + 1, sq, cl, m⟩ (k := s.b.lR) hw.lR hw.bR
  have hkx : l1.length < s.b.lR := hlm.1
  have hl12 : s.b.lR ≤ 12 := hlm.2.1
  have hpc : 40 + pj.length = pc := hw.rP ⟨pb, pc, pj, 2, fr, k1.length + 1, sq, cl, m⟩ (by simp)
  have hnR0 := rnetR hw rfl
  have hnR : s.b.lR ≤ (s.F 16).2 := hnR0
  obtain ⟨S0, hS0⟩ : ∃ S0 : Sta, S0 = { s with nr := true, net := l1 ++ ⟨pb, pc, pj, 2, fr, k1.length + 1, sq, cl, m⟩ :: l2, hms := k1 ++ ⟨gF, gJ, hs, hl, lh, many, true, ths⟩ :: k2 } := ⟨_, rfl⟩
  obtain ⟨b, hb⟩ : ∃ b : Bs, b = { s.b with n := n, hm := k1.length + 1, kx := l1.length, kfr := fr, kto := k1.length + 1, kseq := sq, kcall := cl, kn := m, kr := n.tmod (s.b.lR : Int), ob := obW [(2, o2 s.b.H (k1.length + 1)), (3, o3 s.b.lR l1.length (rL 19 40)), (23, o23 s.b.lR l1.length (rL 19 40)), (15, .m ((s.came ++ [(fr, k1.length + 1, sq, s.cck)]).map cameS) (s.cck + 1))] S0 } := ⟨_, rfl⟩
  obtain ⟨neg, hneg⟩ : ∃ neg : Bool, (neg = false → n.tmod (s.b.lR : Int) = (l1.length : Int)) ∧ (neg = true → n.tmod (s.b.lR : Int) < 0 ∧ n.tmod (s.b.lR : Int) + (s.b.lR : Int) = (l1.length : Int)) := by
    rcases hk with hk | hk
    · exact ⟨false, fun _ => hk, fun h => by cases h⟩
    · exact ⟨true, fun h => (by cases h), fun _ => hk⟩
  obtain ⟨run, hck⟩ := okR_i (r_dr (neg := neg) (Nat.lt_succ_of_le h4) hjl)
  have hob : ∀ i, fnB ((bHm b hs hl lh many ths).ob i) = true := by show ∀ i, fnB (b.ob i) = true; rw [hb]; exact fn_obW _ (and2 fn_o2 (and2 (fn_o3 rfl) (and2 (fn_o23 rfl) (and2 (fn_came _ _) rfl))))
  have ft := fun e => fit (F := s.F) (g := gF) (b := b) (hs := hs) (hl := hl) (lh := lh) (many := many) (e := e) (p := ⟨pb, pc, pj, 2, fr, k1.length + 1, sq, cl, m⟩) h4
  have fR := fun ad => fitR (ad := ad) (b := b) (hs := hs) (hl := hl) (lh := lh) (many := many) h4
  have ft2 : ∀ e k u, (ths.set j { t with rs := some m })[k]? = some u → Fit (DA (fhp s.F gF ths ⟨pb, pc, pj, 2, fr, k1.length + 1, sq, cl, m⟩) (bHm b hs hl lh many ths) e) (0 + k) u := fun e k u hu => by
    by_cases hk : j = k
    · subst hk
      rw [List.getElem?_set_self hjl] at hu
      cases hu
      exact ft e j t hj
    · rw [List.getElem?_set_ne hk] at hu
      exact ft e k u hu
  have q0 : ((mn 0, O.tb (drT j neg)) :: (comE ++ (netR ++ pkR))).map (deE (DA (fhp s.F gF ths ⟨pb, pc, pj, 2, fr, k1.length + 1, sq, cl, m⟩) (bHm b hs hl lh many ths) noN) (xS (jhp s.J gJ ⟨pb, pc, pj, 2, fr, k1.length + 1, sq, cl, m⟩) s.O)) = [0, 1, 2, 4, 5, 6, 14].flatMap (kk { S0 with net := l1 ++ l2, hms := k1 ++ k2 } [⟨pb, pc, pj, 2, fr, k1.length + 1, sq, cl, m⟩] [⟨gF, gJ, hs, hl, lh, many, true, ths⟩]) := by
    subst hb hS0
    exact mapEq ⟨rfl, rfl, rfl, rfl, de_row rfl (mid2 hw (by rfl) hmh hrow), de_row rfl (all1 hw (by rfl)), rfl, de_row rfl (mid3 hw (by rfl) (l := l1) (m := l2) rfl (by rfl)), de_sent rfl, de_came rfl, de_pk2 rfl, trivial⟩
  have q1 : ((mn 0, O.tb (drT j neg)) :: drE ths.length j).map (deE (DA (fhp s.F gF ths ⟨pb, pc, pj, 2, fr, k1.length + 1, sq, cl, m⟩) (bHm b hs hl lh many ths) noN) (xS (jhp s.J gJ ⟨pb, pc, pj, 2, fr, k1.length + 1, sq, cl, m⟩) s.O)) = [0, 1, 2, 4, 5, 6, 14, 15].flatMap (kk { S0 with net := l1 ++ l2, hms := k1 ++ k2 } [⟨pb, pc, pj, 2, fr, k1.length + 1, sq, cl, m⟩] [⟨gF, gJ, hs, hl, lh, many, true, ths⟩]) := by
    rw [show (mn 0, O.tb (drT j neg)) :: drE ths.length j = ((mn 0, O.tb (drT j neg)) :: (comE ++ (netR ++ pkR))) ++ hmS ths.length (rowS 0 ths.length) (thsS 0 (wtS j bF (iI 0) 0 ths.length)) from rfl, List.map_append, q0, de_hm (K := gJ) (ths' := ths) (T := ths.flatMap gTh) rfl rfl rfl (by rw [row_de (ft noN)]; rfl) (th_gen (ft noN) (wt_fit fun k u hu => ⟨fun hk => ?_, fun hk => ?_⟩)), show [0, 1, 2, 4, 5, 6, 14, 15] = [0, 1, 2, 4, 5, 6, 14] ++ [15] from rfl, flat15]
    · subst hb hS0; rfl
    · rw [Nat.zero_add] at hk
      subst hk
      rw [hj] at hu
      cases hu
      exact ⟨by rw [hv]; rfl, by rw [hv]; rfl⟩
    · rw [Nat.zero_add] at hk ⊢
      exact ⟨(fR _ k u hu).2, (fR noN k u hu).1⟩
  have htb : AllP ((drT j neg).map (TbOk (tauA (bHm b hs hl lh many ths)))) := by
    have e1 : AllP ((eqF j 0 (j + 1)).map (TbOk (tauA (bHm b hs hl lh many ths)))) := eq_ok (D := DA (fhp s.F gF ths ⟨pb, pc, pj, 2, fr, k1.length + 1, sq, cl, m⟩) (bHm b hs hl lh many ths) noN) (c := cl) (by subst hb; rfl) fun k hk => by
      have hkl : k < ths.length := by omega
      have hu : ths[k]? = some ths[k] := List.getElem?_eq_getElem hkl
      refine ⟨_, (ft noN k _ hu).2.2.1, fun h => ?_, fun h => hlt k _ (by omega) hu⟩
      rw [Nat.zero_add] at h
      subst h
      rw [hj] at hu
      injection hu with hu
      rw [← hu]; exact hwt
    have e2 : TbOk (tauA (bHm b hs hl lh many ths)) (.bin .neq (tK (39 + j)) (iU 0) bT) := by
      have h0 := (ft noN j t hj).2.2.1
      rw [Nat.zero_add] at h0
      exact tb_t (i := .u64) (a := (t.wt : Int)) (b := 0) rfl (congrArg some h0) rfl (by show ¬ ((t.wt : Int) = 0); omega)
    have e3 : AllP ((cond neg [f43, f44, f45] [f25, f26]).map (TbOk (tauA (bHm b hs hl lh many ths)))) := by
      subst hb
      cases neg
      · exact ⟨fa25 (by show 0 < s.b.lR; omega) (hneg.1 rfl), fa26, trivial⟩
      · exact ⟨fa43 (by show 0 < s.b.lR; omega) rfl, fa44 (hneg.2 rfl).1, fa45 (hneg.2 rfl).2 (by show l1.length < 1000; omega), trivial⟩
    have e4 : AllP ((eqF j 0 (j + 1) ++ [TbE.bin .neq (tK (39 + j)) (iU 0) bT]).map (TbOk (tauA (bHm b hs hl lh many ths)))) := by rw [List.map_append]; exact AllP.app.2 ⟨e1, e2, trivial⟩
    have e5 : AllP ((f27 :: f46 :: f47 :: f30 :: f31 :: f32 :: f33 :: f34 :: f35 :: (eqF j 0 (j + 1) ++ [TbE.bin .neq (tK (39 + j)) (iU 0) bT])).map (TbOk (tauA (bHm b hs hl lh many ths)))) := by
      clear e1 e2 e3
      subst hb
      exact ⟨fa27 hkx, fa28 rfl, fa47 hp, fa30 (by show l1.length < 1000; omega), fa31 hkx hl12 rfl rfl, lkC rfl rfl rfl (by subst hS0; rfl) hc, upC rfl rfl rfl (by subst hS0; rfl) hc rfl, fa34 hmh, fa35 rfl, e4⟩
    refine ⟨by subst hb; exact fa24 (by show 0 < s.b.lR; omega), ?_⟩
    rw [List.map_append]
    exact AllP.app.2 ⟨e3, e5⟩
  have hneed : AllP (needE (DA (fhp s.F gF ths ⟨pb, pc, pj, 2, fr, k1.length + 1, sq, cl, m⟩) (bHm b hs hl lh many ths) noN) 48 (xS (jhp s.J gJ ⟨pb, pc, pj, 2, fr, k1.length + 1, sq, cl, m⟩) s.O) ((mn 0, O.tb (drT j neg)) :: drE ths.length j)) := by
    refine AllP.app.2 ⟨htb, ?_⟩
    unfold drE
    rw [needE_app, needE_app, needE_app]
    refine AllP.app.2 ⟨?_, AllP.app.2 ⟨?_, AllP.app.2 ⟨need_pk2 hpc, need_hm r22 r25 r27 r29 (wt_okP ⟨rfl, rfl⟩)⟩⟩⟩
    · subst hb hS0; exact need_com ⟨hw.com.1, hw.com.2⟩ (op_tks hw.com.2) (op2 hw hmh hw.com.1)
    · subst hb hS0; exact need_netR hnR (op_mid (by show l1.length * 1 + 0 + 1 ≤ s.b.lR * 1; omega) (by decide) ⟨show 0 + 40 ≤ pc by omega, trivial⟩ (hw.rnet rfl)) op_sent op_came
  rw [← hS0] at hown hnd ⊢
  refine (act_of run hck hob q1 (by subst hb hS0; rfl) (blocks_sel (s := S0) (by subst hS0; exact pmid) (by subst hS0; exact pmid) [0, 1, 2, 4, 5, 6, 14, 15] [3, 7, 8, 9, 10, 11, 12, 13] (by decide)) hneed trivial hown hnd).mono ?_
  rintro y L' ⟨e, z, Jk, rfl, h2, h3⟩
  generalize hJ : jw [(4, 4), (5, 5), (16, 16)] z s.J = J
  generalize hK : (fun k => (z (mn k)).1) = K
  obtain ⟨S1, hS1⟩ : ∃ S1 : Sta, S1 = { s with nr := true, net := l1 ++ l2, came := s.came ++ [(fr, k1.length + 1, sq, s.cck)], cck := s.cck + 1, hms := k1 ++ ⟨gF, K, hs, hl, lh, many, true, ths.set j { t with rs := some m }⟩ :: k2, J := J, O := (z (mn 0)).2, b := { s.b with told := vS none 0 0, lR := s.b.lR - 1, rows := updR s.b.rows 3 (cutR (s.b.rows 3) l1.length) } } := ⟨_, rfl⟩
  have p0 : ((mn 0, O.tb (drT j neg)) :: [b0, b1, b35, b3, b4, b75, b76, b37, b77]).map (deE (DA (fhp s.F gF ths ⟨pb, pc, pj, 2, fr, k1.length + 1, sq, cl, m⟩) (bHm b hs hl lh many ths) e) z) = [0, 1, 2, 4, 5, 6, 14].flatMap (kk { S1 with net := l1 ++ l2, hms := k1 ++ k2 } [] [⟨gF, K, hs, hl, lh, many, true, ths.set j { t with rs := some m }⟩]) := by
    subst hb hJ hS1 hS0
    exact mapEq ⟨rfl, rfl, rfl, rfl, de_row rfl (mid2 hw (by rfl) hmh hrow), de_row rfl (all1 hw (by rfl)), rfl, de_row rfl (cut3 hw (by rfl) (l := l1) (m := l2) rfl (by rfl)), de_sent rfl, de_came rfl, trivial⟩
  have hl2 : (ths.set j { t with rs := some m }).length = ths.length := List.length_set
  have p1 := de_hm (F := s.F) (p := ⟨pb, pc, pj, 2, fr, k1.length + 1, sq, cl, m⟩) (g := gF) (b := b) (ths := ths) (hs := hs) (hl := hl) (lh := lh) (many := many) (x := z) (e := e) (K := K) (ths' := ths.set j { t with rs := some m }) (row := rowS 0 ths.length) (rest := thsS 0 (wtS j bT (tK 25) 0 ths.length)) (T := (ths.set j { t with rs := some m }).flatMap gTh) (by subst hK; rfl) (by subst hK; rfl) (by subst hK; rfl) (by rw [row_de (ft e), slice_set hj]; subst hK; rfl) (by
    rw [← hl2]
    refine th_gen (ft2 e) (wt_fit fun k u hu => ⟨fun hk => ?_, fun hk => ?_⟩)
    · rw [Nat.zero_add] at hk
      subst hk
      rw [List.getElem?_set_self hjl] at hu
      cases hu
      subst hb
      exact ⟨rfl, rfl⟩
    · rw [Nat.zero_add] at hk ⊢
      rw [List.getElem?_set_ne (show j ≠ k from fun h => hk h.symm)] at hu
      exact ⟨(fR _ k u hu).2, (fR noN k u hu).1⟩)
  have g4 := inf_op 4 (mn 4) 2 111 0 s.b.H h3 rfl (by subst hb; rfl) (mid_len (by show (k1.length + 1) * 1 + 0 + 1 ≤ s.b.H * 1; omega))
  have g5 := inf_op 5 (mn 5) 1 50 5 s.b.lL h3 rfl (by subst hb hS0; rfl) (tks_len _ _)
  have g16 := inf_op 7 (mn 16) 23 161 0 (s.b.lR - 1) h3 rfl (by subst hb; rfl) (len23 hkx)
  have g22 := inf_c 13 (mn 22) h3 rfl
  have g25 := inf_c 16 (mn 25) h3 rfl
  have g27 := inf_c 18 (mn 27) h3 rfl
  have g29 := inf_c 20 (mn 29) h3 rfl
  rw [rowS_len] at g29
  refine ⟨J, (z (mn 0)).2, K, [deE (DA (fhp s.F gF ths ⟨pb, pc, pj, 2, fr, k1.length + 1, sq, cl, m⟩) (bHm b hs hl lh many ths) e) z b94] ++ Jk, ?_, ?_, _, rfl⟩
  · show L'.Perm (blocks { s with nr := true, net := l1 ++ l2, came := s.came ++ [(fr, k1.length + 1, sq, s.cck)], cck := s.cck + 1, hms := k1 ++ ⟨gF, K, hs, hl, lh, many, true, ths.set j { t with rs := some m }⟩ :: k2, J := J, O := (z (mn 0)).2, b := { s.b with told := vS none 0 0, lR := s.b.lR - 1, rows := updR s.b.rows 3 (cutR (s.b.rows 3) l1.length) } } ++ _)
    rw [← hS1]
    refine act_fin (s := S0) (s' := S1) (net' := l1 ++ l2) (hms' := k1 ++ k2) (xp' := []) (xh' := [⟨gF, K, hs, hl, lh, many, true, ths.set j { t with rs := some m }⟩]) (by subst hS1; exact px) (by subst hS1; exact pmid) [0, 1, 2, 4, 5, 6, 14, 15] [3, 7, 8, 9, 10, 11, 12, 13] (by decide) h2 (by subst hS0 hS1 hJ; rfl) (Y := [deE (DA (fhp s.F gF ths ⟨pb, pc, pj, 2, fr, k1.length + 1, sq, cl, m⟩) (bHm b hs hl lh many ths) e) z b94]) ?_
    rw [show [0, 1, 2, 4, 5, 6, 14, 15] = [0, 1, 2, 4, 5, 6, 14] ++ [15] from rfl, flat15]
    show (List.map _ (((mn 0, O.tb (drT j neg)) :: [b0, b1, b35, b3, b4, b75, b76, b37, b77]) ++ (b94 :: hmS ths.length (rowS 0 ths.length) (thsS 0 (wtS j bT (tK 25) 0 ths.length))))).Perm _
    rw [List.map_append, p0, List.map_cons, show hmS ths.length = hmS (ths.set j { t with rs := some m }).length by rw [hl2], p1]
    refine pmid.trans (.of_eq ?_)
    subst hb hS1; rfl
  · have r3 : 21 + (K 22).length = (gF 22).2 * 21 ∧ 3 + (K 25).length = (gF 25).2 * 3 ∧ 36 + (K 27).length = (gF 27).2 * 36 ∧ ths.length + (K 29).length = (gF 29).2 * 1 := by subst hK; exact ⟨g22, g25, g27, g29⟩
    clear p0 p1
    subst hJ
    exact { hw with com := ⟨g4, g5⟩, rnet := fun _ => g16, rR := cutR_map hw.rR, lR := hlm.2.2.1, bR := hlm.2.2.2, nR := fun (h : true = false) => (by cases h), rP := fun q hq => hw.rP q (mem_mid hq), hm := siM (s := { s with nr := true, net := l1 ++ ⟨pb, pc, pj, 2, fr, k1.length + 1, sq, cl, m⟩ :: l2 }) hw ⟨⟨r3.1, r3.2.1, r3.2.2.1⟩, fun _ => (by show (ths.set j { t with rs := some m }).length * 1 + _ = _; rw [hl2, Nat.mul_one]; exact r3.2.2.2), fun (h : true = false) => (by cases h)⟩, rH := siR (s := { s with nr := true, net := l1 ++ ⟨pb, pc, pj, 2, fr, k1.length + 1, sq, cl, m⟩ :: l2 }) hw _ _, bH := siB (s := { s with nr := true, net := l1 ++ ⟨pb, pc, pj, 2, fr, k1.length + 1, sq, cl, m⟩ :: l2 }) hw _ }
end Go.Proofs.YtpcdcemcjbeajaaGreatDoor

/- WholeFar: FarRl, FarRm. -/
import Derived.Test.YtpcdcemcjbeajaaGreatDoorWf16
import Derived.Test.YtpcdcemcjbeajaaGreatDoorWf17
section
set_option maxHeartbeats 400000
set_option linter.unusedVariables false
set_option linter.unusedSimpArgs false
set_option maxRecDepth 100000
namespace Go.Proofs.YtpcdcemcjbeajaaGreatDoor
open Go Go.RowKit Go.Shelf
noncomputable def dcE (RP : List (Nm × O)) : List (Nm × O) := comE ++ (netR ++ (pkC ++ (h0a ++ RP)))
noncomputable def dcP (RQ : List (Nm × O)) : List (Nm × O) := [b0, b1, b35, b3, b4, b75, b76, b37, b77] ++ (b72 :: (h0a ++ RQ))
noncomputable def dcT (neg : Bool) (TT : List TbE) : List TbE := f24 :: (cond neg [f43, f44, f45] [f25, f26] ++ (f27 :: f28 :: f29 :: f30 :: f31 :: f32 :: f33 :: f34 :: f35 :: TT))
noncomputable def dcR (RP RQ : List (Nm × O)) (TT : List TbE) (neg : Bool) : Bool := okR (.t [.s xsn, .s (iI 0)]) drV ((mn 0, .tb (dcT neg TT)) :: dcE RP) ((mn 0, .tb (dcT neg TT)) :: dcP RQ)
structure Q4 where
  f0 : Nat
  s0 : Nat
  c0 : Nat
  n0 : Int
  f1 : Nat
  s1 : Nat
  c1 : Nat
  n1 : Int
  f2 : Nat
  s2 : Nat
  c2 : Nat
  n2 : Int
  f3 : Nat
  s3 : Nat
  c3 : Nat
  n3 : Int
noncomputable def bDc (s : Sta) (l1 l2 : List Pk) (p : Pk) (n : Int) (q : Q4) (ro : List (Nat × O)) : Bs := { s.b with n := n, hm := 0, kx := l1.length, kfr := p.fr, kto := 0, kseq := p.seq, kcall := p.call, kn := p.n, kr := n.tmod (s.b.lR : Int), thr := thrV s.F s.t0, qfr0 := q.f0, qseq0 := q.s0, qcall0 := q.c0, qn0 := q.n0, qfr1 := q.f1, qseq1 := q.s1, qcall1 := q.c1, qn1 := q.n1, qfr2 := q.f2, qseq2 := q.s2, qcall2 := q.c2, qn2 := q.n2, qfr3 := q.f3, qseq3 := q.s3, qcall3 := q.c3, qn3 := q.n3, ob := obW ((2, o2 s.b.H 0) :: (3, o3 s.b.lR l1.length (rL 19 64)) :: (23, o23 s.b.lR l1.length (rL 19 64)) :: (15, .m ((s.came ++ [(p.fr, 0, p.seq, s.cck)]).map cameS) (s.cck + 1)) :: (1, .c 50 6 s.b.lL (tks 1000000 (s.b.lL * 6))) :: (4, .m (s.sent.map sentS) s.sck) :: (5, .m (s.came.map cameS) s.cck) :: ro) { s with nr := true, net := l1 ++ p :: l2 } }
theorem a_dc {s : Sta} {l1 l2 : List Pk} {p : Pk} {n : Int} {q : Q4} {ro : List (Nat × O)} {RP RQ : List (Nm × O)} {TT : List TbE} {v : (Nm → Nat × Nat) → Nat × Nat} {lQ rf : Nat} {R : List V1} (hw : WF { s with nr := true, net := l1 ++ p :: l2 }) (hkd : p.kd = 1) (hto : p.to = 0) (hk : n.tmod (s.b.lR : Int) = (l1.length : Int) ∨ n.tmod (s.b.lR : Int) < 0 ∧ n.tmod (s.b.lR : Int) + (s.b.lR : Int) = (l1.length : Int)) (hc : cmK p.fr p.to p.seq s.came = false) (hp : PkB p.fr p.to p.seq p.call p.n)
    (hrun : ∀ neg, dcR RP RQ TT neg = true) (hro : ro.all (fun p => fnB p.2) = true)
    (hR1 : RP.map (deE (DA (fpk s.F p) (bDc s l1 l2 p n q ro) noN) (xS (jpk s.J p) s.O)) = rgA s.F s.J s.b (rgSl s.F s.rg s.b.lQ) s.b.rf s.b.rc ++ rgR_ s.F s.rg (s.b.rows 7)) (hT : AllP (TT.map (TbOk (tauA (bDc s l1 l2 p n q ro))))) (hN : AllP (needE (DA (fpk s.F p) (bDc s l1 l2 p n q ro) noN) 48 (xS (jpk s.J p) s.O) RP))
    (hR2 : ∀ e z, RQ.map (deE (DA (fpk s.F p) (bDc s l1 l2 p n q ro) e) z) = rgA s.F s.J s.b (.slice (some ⟨(v e).1, 0, none⟩) lQ (v e).2) rf (s.b.rc + 1) ++ [((v e).1, cel 134 (vals R))])
    (hv : ∀ e, (v e).2 = lQ) (hRl : R.length = lQ * 25) (hQ : lQ ≤ 12) {w : World} (hown : ∀ q ∈ blocks { s with nr := true, net := l1 ++ p :: l2 }, w.heap[q.1]? = some q.2) (hnd : (keys (blocks { s with nr := true, net := l1 ++ p :: l2 })).Nodup) :
    Ctr Tryz.prog 8 [.pointer (some ⟨(s.F 1).1, 0, none⟩), actVal 22 0 0 n] w (blocks { s with nr := true, net := l1 ++ p :: l2 }) fun y L' => ∃ (F : Nat → Nat × Nat) (J : Nat → List Value) (o : Obj) (Jk : List Ent),
      let s' : Sta := { s with F := F, nr := true, net := l1 ++ l2, came := s.came ++ [(p.fr, p.to, p.seq, s.cck)], cck := s.cck + 1, rg := true, J := J, O := o, b := { s.b with told := vS none 0 0, lR := s.b.lR - 1, rows := updR (updR s.b.rows 3 (cutR (s.b.rows 3) l1.length)) 7 R, lQ := lQ, rf := rf, rc := s.b.rc + 1 } }
      (F 1).1 = (s.F 1).1 ∧ L'.Perm (blocks s' ++ Jk) ∧ WF s' ∧ ∃ v, y = .tuple #[v, .int .i64 0] := by
  obtain ⟨pb, pc, pj, kd, fr, to, sq, cl, m⟩ := p
  have hkd : kd = 1 := hkd
  have hto : to = 0 := hto
  subst hkd hto
  have hH0 := len_s hw
  have hH : 0 < s.b.H := hH0
  have hlm := len_mid l1 l2 ⟨pb, pc, pj, 1, fr, 0, sq, cl, m⟩ (k := s.b.lR) hw.lR hw.bR
  have hkx : l1.length < s.b.lR := hlm.1
  have hl12 : s.b.lR ≤ 12 := hlm.2.1
  have hpc : 64 + pj.length = pc := hw.rP ⟨pb, pc, pj, 1, fr, 0, sq, cl, m⟩ (by simp)
  have hnR0 := rnetR hw rfl
  have hnR : s.b.lR ≤ (s.F 16).2 := hnR0
  obtain ⟨S0, hS0⟩ : ∃ S0 : Sta, S0 = { s with nr := true, net := l1 ++ ⟨pb, pc, pj, 1, fr, 0, sq, cl, m⟩ :: l2 } := ⟨_, rfl⟩
  obtain ⟨b, hb⟩ : ∃ b : Bs, b = bDc s l1 l2 ⟨pb, pc, pj, 1, fr, 0, sq, cl, m⟩ n q ro := ⟨_, rfl⟩
  rw [← hb] at hR1 hT hN
  obtain ⟨neg, hneg⟩ : ∃ neg : Bool, (neg = false → n.tmod (s.b.lR : Int) = (l1.length : Int)) ∧ (neg = true → n.tmod (s.b.lR : Int) < 0 ∧ n.tmod (s.b.lR : Int) + (s.b.lR : Int) = (l1.length : Int)) := by
    rcases hk with hk | hk
    · exact ⟨false, fun _ => hk, fun h => by cases h⟩
    · exact ⟨true, fun h => (by cases h), fun _ => hk⟩
  obtain ⟨run, hck⟩ := okR_i (hrun neg)
  have hob : ∀ i, fnB (b.ob i) = true := by rw [hb]; exact fn_obW _ (and2 fn_o2 (and2 (fn_o3 rfl) (and2 (fn_o23 rfl) (and2 (fn_came _ _) (and2 (fn_tks _ _) (and2 (fn_sent _ _) (and2 (fn_came _ _) hro)))))))
  have q0 : ((mn 0, O.tb (dcT neg TT)) :: (comE ++ (netR ++ (pkC ++ h0a)))).map (deE (DA (fpk s.F ⟨pb, pc, pj, 1, fr, 0, sq, cl, m⟩) b noN) (xS (jpk s.J ⟨pb, pc, pj, 1, fr, 0, sq, cl, m⟩) s.O)) = [0, 1, 2, 4, 5, 6, 14, 7].flatMap (kk { S0 with net := l1 ++ l2, hms := s.hms } [⟨pb, pc, pj, 1, fr, 0, sq, cl, m⟩] []) := by
    subst hb hS0
    exact mapEq ⟨rfl, rfl, rfl, rfl, de_row rfl (mid2 hw (by rfl) hH (row20 hw)), de_row rfl (all1 hw (by rfl)), rfl, de_row rfl (mid3 hw (by rfl) (l := l1) (m := l2) rfl (by rfl)), de_sent rfl, de_came rfl, de_pk1 rfl, rfl, rfl, rfl, rfl, rfl, rfl, rfl, trivial⟩
  have h10 : ∀ (S : Sta) (xp : List Pk) (a : List Nat), (a ++ [10, 11]).flatMap (kk S xp []) = a.flatMap (kk S xp []) ++ (kk S xp [] 10 ++ kk S xp [] 11) := fun S xp a => by
    rw [List.flatMap_append]
    congr 1
    show kk S xp [] 10 ++ (kk S xp [] 11 ++ []) = _
    rw [List.append_nil]
  have q1 : ((mn 0, O.tb (dcT neg TT)) :: dcE RP).map (deE (DA (fpk s.F ⟨pb, pc, pj, 1, fr, 0, sq, cl, m⟩) b noN) (xS (jpk s.J ⟨pb, pc, pj, 1, fr, 0, sq, cl, m⟩) s.O)) = ([0, 1, 2, 4, 5, 6, 14, 7] ++ [10, 11]).flatMap (kk { S0 with net := l1 ++ l2, hms := s.hms } [⟨pb, pc, pj, 1, fr, 0, sq, cl, m⟩] []) := by
    rw [show (mn 0, O.tb (dcT neg TT)) :: dcE RP = ((mn 0, O.tb (dcT neg TT)) :: (comE ++ (netR ++ (pkC ++ h0a)))) ++ RP from rfl, List.map_append, q0, hR1, h10]
    subst hS0; rfl
  have htb : AllP ((dcT neg TT).map (TbOk (tauA b))) := by
    have e3 : AllP ((cond neg [f43, f44, f45] [f25, f26]).map (TbOk (tauA b))) := by
      subst hb
      cases neg
      · exact ⟨fa25 (by show 0 < s.b.lR; omega) (hneg.1 rfl), fa26, trivial⟩
      · exact ⟨fa43 (by show 0 < s.b.lR; omega) rfl, fa44 (hneg.2 rfl).1, fa45 (hneg.2 rfl).2 (by show l1.length < 1000; omega), trivial⟩
    have e5 : AllP ((f27 :: f28 :: f29 :: f30 :: f31 :: f32 :: f33 :: f34 :: f35 :: TT).map (TbOk (tauA b))) := by
      clear e3
      subst hb
      exact ⟨fa27 hkx, fa28 rfl, fa29 hp, fa30 (by show l1.length < 1000; omega), fa31 hkx hl12 rfl rfl, lkC rfl rfl rfl rfl hc, upC rfl rfl rfl rfl hc rfl, fa34 hH, fa35 rfl, hT⟩
    refine ⟨by subst hb; exact fa24 (by show 0 < s.b.lR; omega), ?_⟩
    rw [List.map_append]
    exact AllP.app.2 ⟨e3, e5⟩
  have hneed : AllP (needE (DA (fpk s.F ⟨pb, pc, pj, 1, fr, 0, sq, cl, m⟩) b noN) 48 (xS (jpk s.J ⟨pb, pc, pj, 1, fr, 0, sq, cl, m⟩) s.O) ((mn 0, O.tb (dcT neg TT)) :: dcE RP)) := by
    refine AllP.app.2 ⟨htb, ?_⟩
    unfold dcE
    rw [needE_app, needE_app, needE_app, needE_app]
    refine AllP.app.2 ⟨?_, AllP.app.2 ⟨?_, AllP.app.2 ⟨need_pk1 hpc, AllP.app.2 ⟨need_h0a hw.h0, hN⟩⟩⟩⟩
    · subst hb; exact need_com ⟨hw.com.1, hw.com.2⟩ (op_tks hw.com.2) (op2 hw hH hw.com.1)
    · subst hb; exact need_netR hnR (op_mid (by show l1.length * 1 + 0 + 1 ≤ s.b.lR * 1; omega) (by decide) ⟨show 0 + 64 ≤ pc by omega, trivial⟩ (hw.rnet rfl)) op_sent op_came
  rw [← hS0] at hown hnd ⊢
  refine (act_of run hck hob q1 (by subst hb; rfl) (blocks_sel (s := S0) (by subst hS0; exact pmid) (by subst hS0; exact px) ([0, 1, 2, 4, 5, 6, 14, 7] ++ [10, 11]) [3, 8, 9, 12, 13, 15] (by decide)) hneed trivial hown hnd).mono ?_
  rintro y L' ⟨e, z, Jk, rfl, h2, h3⟩
  have hR2 := hR2 e z
  rw [← hb] at hR2
  have hv := hv e
  generalize hFn : fs 28 (v e) s.F = F
  generalize hJ : jw [(4, 4), (5, 5), (16, 16), (22, 22), (25, 25)] z s.J = J
  obtain ⟨S1, hS1⟩ : ∃ S1 : Sta, S1 = { s with F := F, nr := true, net := l1 ++ l2, came := s.came ++ [(fr, 0, sq, s.cck)], cck := s.cck + 1, rg := true, J := J, O := (z (mn 0)).2, b := { s.b with told := vS none 0 0, lR := s.b.lR - 1, rows := updR (updR s.b.rows 3 (cutR (s.b.rows 3) l1.length)) 7 R, lQ := lQ, rf := rf, rc := s.b.rc + 1 } } := ⟨_, rfl⟩
  have p0 : (((mn 0, O.tb (dcT neg TT)) :: [b0, b1, b35, b3, b4, b75, b76, b37, b77]) ++ h0a).map (deE (DA (fpk s.F ⟨pb, pc, pj, 1, fr, 0, sq, cl, m⟩) b e) z) = [0, 1, 2, 4, 5, 6, 14, 7].flatMap (kk { S1 with net := l1 ++ l2, hms := s.hms } [] []) := by
    subst hb hS1 hJ hFn
    exact mapEq ⟨rfl, rfl, rfl, rfl, de_row rfl (mid2 hw (by rfl) hH (row20 hw)), de_row rfl (all1 hw (by rfl)), rfl, de_row rfl (cut3 hw (by rfl) (l := l1) (m := l2) rfl (by rfl)), de_sent rfl, de_came rfl, rfl, rfl, rfl, rfl, rfl, rfl, rfl, trivial⟩
  have hperm : L'.Perm (blocks S1 ++ ([deE (DA (fpk s.F ⟨pb, pc, pj, 1, fr, 0, sq, cl, m⟩) b e) z b72] ++ Jk)) := by
    refine act_fin (s := S0) (s' := S1) (net' := l1 ++ l2) (hms' := s.hms) (xp' := []) (xh' := []) (by subst hS1; exact px) (by subst hS1; exact px) ([0, 1, 2, 4, 5, 6, 14, 7] ++ [10, 11]) [3, 8, 9, 12, 13, 15] (by decide) h2 (by subst hS0 hS1 hJ hFn; rfl) (Y := [deE (DA (fpk s.F ⟨pb, pc, pj, 1, fr, 0, sq, cl, m⟩) b e) z b72]) ?_
    have e10 : kk { S1 with net := l1 ++ l2, hms := s.hms } [] [] 10 ++ kk { S1 with net := l1 ++ l2, hms := s.hms } [] [] 11 = RQ.map (deE (DA (fpk s.F ⟨pb, pc, pj, 1, fr, 0, sq, cl, m⟩) b e) z) := by
      rw [hR2]
      subst hS1 hFn; rfl
    rw [h10, e10, ← p0, ← List.map_append]
    show (List.map _ (((mn 0, O.tb (dcT neg TT)) :: [b0, b1, b35, b3, b4, b75, b76, b37, b77]) ++ (b72 :: (h0a ++ RQ)))).Perm _
    rw [List.map_append, List.map_cons, List.append_assoc, List.map_append]
    exact pmid
  have g4 := inf_op 4 (mn 4) 2 111 0 s.b.H h3 rfl (by subst hb; rfl) (mid_len (by show 0 * 1 + 0 + 1 ≤ s.b.H * 1; omega))
  have g5 := inf_op 5 (mn 5) 1 50 5 s.b.lL h3 rfl (by subst hb; rfl) (tks_len _ _)
  have g16 := inf_op 7 (mn 16) 23 161 0 (s.b.lR - 1) h3 rfl (by subst hb; rfl) (len23 hkx)
  have g22 := inf_c 13 (mn 22) h3 rfl
  have g25 := inf_c 16 (mn 25) h3 rfl
  have hwf : WF S1 := by
    clear p0 hR2 hperm
    subst hS1 hJ hFn
    exact { hw with com := ⟨g4, g5⟩, h0 := ⟨g22, g25⟩, rnet := fun _ => g16, rR := cutR_map hw.rR, lR := hlm.2.2.1, bR := hlm.2.2.2, nR := fun (h : true = false) => (by cases h), rP := fun q hq => hw.rP q (mem_mid hq), rQ := fun _ => hRl, bQ := hQ, rrg := fun _ => hv, rN := fun (h : true = false) => (by cases h) }
  refine ⟨F, J, (z (mn 0)).2, _, by subst hFn; rfl, hS1 ▸ hperm, hS1 ▸ hwf, _, rfl⟩
end Go.Proofs.YtpcdcemcjbeajaaGreatDoor
end
section
set_option maxHeartbeats 400000
set_option linter.unusedVariables false
set_option linter.unusedSimpArgs false
set_option maxRecDepth 100000
namespace Go.Proofs.YtpcdcemcjbeajaaGreatDoor
open Go Go.RowKit Go.Shelf
noncomputable def qS (j : Nat) : List S := [iI 1, tK (119 + 4 * j), iI 0, tK (120 + 4 * j), tK (121 + 4 * j), iB 0, iB 0, iB 0, iB 0, iB 0, iB 0, iB 0, iB 0, iB 0, iB 0, iB 0, iB 1, iB 0, iB 0, iB 0, iB 1, iI 0, tK (122 + 4 * j), iI 0, xsn]
noncomputable def fuP (f : Nat) : List (Nm × O) := [(mn 27, .c 206 0 0 [iI 16, .l (mn 28) 0 4 4 false, iI f, iI 4]), (mn 28, .c 134 0 0 (qS 0 ++ (qS 1 ++ (qS 2 ++ qS 3))))]
noncomputable def fuQ (a b c d : Nat) : List (Nm × O) := [b82, (mn 69, .c 134 0 0 (qS a ++ (qS b ++ (qS c ++ (qS d ++ (kS ++ (zS ++ (zS ++ (zS ++ (zS ++ (zS ++ (zS ++ zS))))))))))))]
noncomputable def osT : List TbE := [f36, f37, f38, f39, f40, f41, f42]
theorem r_dcn : ∀ neg, dcR [b74] [b78, b79] [] neg = true := by
  have h : (dcR [b74] [b78, b79] [] true && dcR [b74] [b78, b79] [] false) = true := by decide +kernel
  rw [Bool.and_eq_true] at h
  intro neg; cases neg
  · exact h.2
  · exact h.1
theorem r_dco : ∀ neg, dcR [b90, b91] [b92, b93] osT neg = true := by
  have h : (dcR [b90, b91] [b92, b93] osT true && dcR [b90, b91] [b92, b93] osT false) = true := by decide +kernel
  rw [Bool.and_eq_true] at h
  intro neg; cases neg
  · exact h.2
  · exact h.1
noncomputable def fuB (f a b c d : Nat) : Bool := dcR (fuP f) (fuQ a b c d) [] true && dcR (fuP f) (fuQ a b c d) [] false
theorem r_fu0 : fuB 0 0 1 2 3 = true := by decide +kernel
theorem r_fu1 : fuB 1 1 2 3 0 = true := by decide +kernel
theorem r_fu2 : fuB 2 2 3 0 1 = true := by decide +kernel
theorem r_fu3 : fuB 3 3 0 1 2 = true := by decide +kernel
theorem fu_neg {f a b c d : Nat} (h : fuB f a b c d = true) : ∀ neg, dcR (fuP f) (fuQ a b c d) [] neg = true := by
  unfold fuB at h
  rw [Bool.and_eq_true] at h
  intro neg; cases neg
  · exact h.2
  · exact h.1
def zV7 : List V1 := zV ++ (zV ++ (zV ++ (zV ++ (zV ++ (zV ++ zV)))))
def ring5 (a b c d e : Qe) : List V1 := qV a.fr a.sq a.cl a.n ++ (qV b.fr b.sq b.cl b.n ++ (qV c.fr c.sq c.cl c.n ++ (qV d.fr d.sq d.cl d.n ++ (qV e.fr e.sq e.cl e.n ++ zV7))))
theorem qV_len (a b c : Nat) (n : Int) : (qV a b c n).length = 25 := rfl
theorem zV_len : zV.length = 25 := rfl
theorem ring5_len (a b c d e : Qe) : (ring5 a b c d e).length = 12 * 25 := by
  unfold ring5 zV7
  simp only [List.length_append, qV_len, zV_len]
theorem cut25 {α : Type} {a l : List α} (h : a.length = 25) (k : Nat) : (a ++ l).drop ((k + 1) * 25 + 0) = l.drop (k * 25 + 0) := by
  rw [show (k + 1) * 25 + 0 = a.length + (k * 25 + 0) by omega, ← List.drop_drop, List.drop_left]
theorem cut0 {α : Type} {a l : List α} (h : a.length = 25) : ((a ++ l).drop (0 * 25 + 0)).take 25 = a := by
  show (a ++ l).take 25 = a
  rw [← h, List.take_left]
theorem ring5_at (a b c d e : Qe) : ∀ i q, [a, b, c, d, e][i]? = some q → ((ring5 a b c d e).drop (((0 + i) % 12) * 25 + 0)).take 25 = qV q.fr q.sq q.cl q.n := fun i q h => by
  match i, h with
  | 0, h => cases h; exact cut0 rfl
  | 1, h => cases h; unfold ring5; rw [show (0 + 1) % 12 = 0 + 1 from rfl, cut25 rfl]; exact cut0 rfl
  | 2, h => cases h; unfold ring5; rw [show (0 + 2) % 12 = 1 + 1 from rfl, cut25 rfl, cut25 rfl]; exact cut0 rfl
  | 3, h => cases h; unfold ring5; rw [show (0 + 3) % 12 = 2 + 1 from rfl, cut25 rfl, cut25 rfl, cut25 rfl]; exact cut0 rfl
  | 4, h => cases h; unfold ring5; rw [show (0 + 4) % 12 = 3 + 1 from rfl, cut25 rfl, cut25 rfl, cut25 rfl, cut25 rfl]; exact cut0 rfl
  | i + 5, h => cases h
theorem cut4 {α : Type} {l a b c d : List α} (hl : l.length = 100) (h0 : (l.drop (0 * 25 + 0)).take 25 = a) (h1 : (l.drop (1 * 25 + 0)).take 25 = b) (h2 : (l.drop (2 * 25 + 0)).take 25 = c) (h3 : (l.drop (3 * 25 + 0)).take 25 = d) : l = a ++ (b ++ (c ++ d)) := by
  have e3 : (l.drop (3 * 25 + 0)).take 25 = l.drop 75 := List.take_of_length_le (by rw [List.length_drop]; omega)
  rw [← h0, ← h1, ← h2, ← h3, e3]
  show l = l.take 25 ++ ((l.drop 25).take 25 ++ ((l.drop 50).take 25 ++ l.drop 75))
  have a2 : (l.drop 50).take 25 ++ l.drop 75 = l.drop 50 := by
    have := List.take_append_drop 25 (l.drop 50)
    rwa [List.drop_drop] at this
  have a1 : (l.drop 25).take 25 ++ l.drop 50 = l.drop 25 := by
    have := List.take_append_drop 25 (l.drop 25)
    rwa [List.drop_drop] at this
  rw [a2, a1, List.take_append_drop]
def Left (s : Sta) (g : Gh) (L' : List Ent) (y : Value) (code : Nat) (R : Sta → Gh → Prop) : Prop := ∃ (s' : Sta) (g' : Gh) (Jk : List Ent) (v : Value), L'.Perm (blocks s' ++ Jk) ∧ Good s' g' ∧ (s'.F 1).1 = (s.F 1).1 ∧ s'.hms.length = s.hms.length ∧ y = .tuple #[v, .int .i64 (code : Int)] ∧ R s' g'
theorem do_dc {s : Sta} {g : Gh} (hg : Good s g) {l1 l2 : List Pk} {p : Pk} {n : Int} (hnet : s.net = l1 ++ p :: l2) (hkd : p.kd = 1) (hk : n.tmod (s.b.lR : Int) = (l1.length : Int) ∨ n.tmod (s.b.lR : Int) < 0 ∧ n.tmod (s.b.lR : Int) + (s.b.lR : Int) = (l1.length : Int)) {w : World} (hown : ∀ p ∈ blocks s, w.heap[p.1]? = some p.2) (hnd : (keys (blocks s)).Nodup) :
    Ctr Tryz.prog 8 [.pointer (some ⟨(s.F 1).1, 0, none⟩), actVal 22 0 0 n] w (blocks s) fun y L' => Left s g L' y 0 fun s' g' => potN s' g'.qs + 1 = potN s g.qs ∧ g'.sum = g.sum ∧ g'.nc = g.nc := by
  have hp : p ∈ s.net := by rw [hnet]; simp
  have hnr : s.nr = true := by
    cases h : s.nr with
    | true => rfl
    | false => have := hg.wf.nR h; rw [this] at hp; cases hp
  have hto : p.to = 0 := by
    rcases (hg.pk p hp).2 with h | h
    · exact h.2.1
    · omega
  have eS : ({ s with nr := true, net := l1 ++ p :: l2 } : Sta) = s := by rw [← hnr, ← hnet]
  have hw : WF { s with nr := true, net := l1 ++ p :: l2 } := by rw [eS]; exact hg.wf
  have hc := cm_of hg hnet
  have hpb := pkb_of hg hp
  have fin : ∀ {lQ rf : Nat} {R : List V1} {y : Value} {L' : List Ent}, (s.b.rc + 1 ≤ lQ ∧ rf < lQ ∧ (lQ = 4 ∨ lQ = 12)) → (∀ i q, (g.qs ++ [qP p])[i]? = some q → (R.drop (((rf + i) % lQ) * 25 + 0)).take 25 = qV q.fr q.sq q.cl q.n) → (∃ (F : Nat → Nat × Nat) (J : Nat → List Value) (o : Obj) (Jk : List Ent),
      let s' : Sta := { s with F := F, nr := true, net := l1 ++ l2, came := s.came ++ [(p.fr, p.to, p.seq, s.cck)], cck := s.cck + 1, rg := true, J := J, O := o, b := { s.b with told := vS none 0 0, lR := s.b.lR - 1, rows := updR (updR s.b.rows 3 (cutR (s.b.rows 3) l1.length)) 7 R, lQ := lQ, rf := rf, rc := s.b.rc + 1 } }
      (F 1).1 = (s.F 1).1 ∧ L'.Perm (blocks s' ++ Jk) ∧ WF s' ∧ ∃ v, y = .tuple #[v, .int .i64 0]) → Left s g L' y 0 fun s' g' => potN s' g'.qs + 1 = potN s g.qs ∧ g'.sum = g.sum ∧ g'.nc = g.nc := by
    rintro lQ rf R y L' hQ hR ⟨F, J, o, Jk, h1, h2, h3, v, h4⟩
    have h5 := g_dc hg hnet hkd h3 rfl hQ hR
    exact ⟨_, _, Jk, v, h2, h5.1, h1, rfl, h4, h5.2, rfl, rfl⟩
  cases hrg : s.rg with
  | false =>
    obtain ⟨hrf, hrc⟩ := hg.wf.rN hrg
    have hq0 : g.qs = [] := List.eq_nil_of_length_eq_zero (by rw [← hg.qn, hrc])
    have := a_dc (s := s) (p := p) (n := n) (q := ⟨0, 0, 0, 0, 0, 0, 0, 0, 0, 0, 0, 0, 0, 0, 0, 0⟩) (ro := []) (v := fun e => ((adX (adl (fpk s.F p)) e (mn 69)).1, 4)) (lQ := 4) (rf := 0) (R := ring4 p.fr p.seq p.call p.n) hw hkd hto hk hc hpb r_dcn rfl (by rw [hrg, hrf, hrc]; rfl) trivial trivial (fun e z => by rw [hrc]; exact mapEq ⟨rfl, rfl, trivial⟩) (fun _ => rfl) (ring4_len _ _ _ _) (by decide) (w := w) (by rw [eS]; exact hown) (by rw [eS]; exact hnd)
    rw [eS] at this
    exact this.mono fun y L' h => fin ⟨by omega, by omega, .inl rfl⟩ (fun i q hi => by
      rw [hq0] at hi
      match i, hi with
      | 0, hi => cases hi; exact cut0 rfl
      | i + 1, hi => cases hi) h
  | true =>
    obtain ⟨h1, h2, h3, h4⟩ := hg.qr hrg
    have h7 := hg.wf.rQ hrg
    have hrr := hg.wf.rrg hrg
    have hun := good_under hg
    have hn1 : 1 ≤ s.net.length := by rw [hnet, List.length_append, List.length_cons]; omega
    have hqn := hg.qn
    by_cases hlt : s.b.rc < s.b.lQ
    · have hqi : (s.b.rf + s.b.rc) % s.b.lQ < s.b.lQ := Nat.mod_lt _ (by omega)
      have hQ12 : s.b.lQ ≤ 12 := hg.wf.bQ
      have hcl : (setR (s.b.rows 7) (((s.b.rf + s.b.rc) % s.b.lQ) * 25 + 0) (qV p.fr p.seq p.call p.n)).length = s.b.lQ * 25 := by rw [setR_len (by show _ + 25 ≤ _; omega)]; exact h7
      have := a_dc (s := s) (p := p) (n := n) (q := ⟨0, 0, 0, 0, 0, 0, 0, 0, 0, 0, 0, 0, 0, 0, 0, 0⟩) (ro := [(7, oQ s.b.lQ ((s.b.rf + s.b.rc) % s.b.lQ) (tks (7000000 + (((s.b.rf + s.b.rc) % s.b.lQ) * 25 + 0)) 25)), (17, oQ s.b.lQ ((s.b.rf + s.b.rc) % s.b.lQ) kS)]) (v := fun _ => s.F 28) (lQ := s.b.lQ) (rf := s.b.rf) (R := setR (s.b.rows 7) (((s.b.rf + s.b.rc) % s.b.lQ) * 25 + 0) (qV p.fr p.seq p.call p.n)) hw hkd hto hk hc hpb r_dco (and2 (fn_mid (fn_tks _ _)) (and2 (fn_mid rfl) rfl))
        (by rw [hrg]; exact mapEq ⟨rfl, de_row0 rfl (midr hg.wf hrg (by rfl) hqi), trivial⟩) ⟨fa36 (by show s.b.rc < 16; omega), fa37 hlt, fa38 (by show s.b.rf < 1000; omega) (by show s.b.rc < 1000; omega), fa39 (by show 0 < s.b.lQ; omega), fa40 (by show 0 < s.b.lQ; omega), fa41 rfl (tks_len _ _).symm rfl, fa42 (by show s.b.rc < 1000; omega), trivial⟩
        (need_rgO hrr (opQ hqi ⟨tks_len _ _, bnd_tks 48 _ _, by rw [needL_tks]; trivial⟩ rfl)) (fun e z => mapEq ⟨rfl, de_row0 rfl (midz hg.wf hrg (by rfl) hqi rfl (by rfl)), trivial⟩) (fun _ => hrr) hcl hQ12 (w := w) (by rw [eS]; exact hown) (by rw [eS]; exact hnd)
      rw [eS] at this
      exact this.mono fun y L' h => fin ⟨by omega, h2, h3⟩ (fun i u hi => by
        by_cases hi2 : i < g.qs.length
        · rw [List.getElem?_append_left hi2] at hi
          rw [setR_get h7 (qV_len _ _ _ _) hqi (Nat.mod_lt _ (by omega)) (fun h => ?_)]
          · exact h4 i u hi
          · rcases h3 with h3 | h3 <;> rw [h3] at h h2 hlt <;> omega
        · rw [List.getElem?_append_right (by omega)] at hi
          have hi3 := (List.getElem?_eq_some_iff.1 hi).1
          have hi3 : i - g.qs.length < 1 := hi3
          have hi4 : i = s.b.rc := by omega
          rw [show i - g.qs.length = 0 by omega] at hi
          cases hi
          rw [hi4, setR_at h7 (qV_len _ _ _ _) hqi]; rfl) h
    · have h8 : s.b.lQ = 4 := by
        rcases h3 with h3 | h3
        · exact h3
        · omega
      have hrc : s.b.rc = 4 := by omega
      rw [h8] at h7 h4 h2
      rw [hrc] at hqn
      obtain ⟨a, b, c, d, hq⟩ : ∃ a b c d, g.qs = [a, b, c, d] := by
        match g.qs, hqn with
        | [a, b, c, d], _ => exact ⟨a, b, c, d, rfl⟩
      have ha := h4 0 a (by rw [hq]; rfl)
      have hb := h4 1 b (by rw [hq]; rfl)
      have hc' := h4 2 c (by rw [hq]; rfl)
      have hd := h4 3 d (by rw [hq]; rfl)
      have e28 : sl s.F 28 4 = .slice (some ⟨(s.F 28).1, 0, none⟩) 4 4 := by
        unfold sl
        have : (s.F 28).2 = s.b.lQ := hrr
        rw [this, h8]
      have go : ∀ {f : Nat} {q : Q4} {x0 x1 x2 x3 : Nat}, s.b.rf = f → (∀ neg, dcR (fuP f) (fuQ x0 x1 x2 x3) [] neg = true) → (fuP f).map (deE (DA (fpk s.F p) (bDc s l1 l2 p n q []) noN) (xS (jpk s.J p) s.O)) = rgA s.F s.J s.b (.slice (some ⟨(s.F 28).1, 0, none⟩) 4 4) f 4 ++ [((s.F 28).1, cel 134 (vals (s.b.rows 7)))] →
          (∀ e z, (fuQ x0 x1 x2 x3).map (deE (DA (fpk s.F p) (bDc s l1 l2 p n q []) e) z) = rgA s.F s.J s.b (.slice (some ⟨(adX (adl (fpk s.F p)) e (mn 69)).1, 0, none⟩) 12 12) 0 5 ++ [((adX (adl (fpk s.F p)) e (mn 69)).1, cel 134 (vals (ring5 a b c d (qP p))))]) → Ctr Tryz.prog 8 [.pointer (some ⟨(s.F 1).1, 0, none⟩), actVal 22 0 0 n] w (blocks s) fun y L' => Left s g L' y 0 fun s' g' => potN s' g'.qs + 1 = potN s g.qs ∧ g'.sum = g.sum ∧ g'.nc = g.nc := by
        intro f q x0 x1 x2 x3 hf hrun hr1 hr2
        have := a_dc (s := s) (p := p) (n := n) (q := q) (ro := []) (v := fun e => ((adX (adl (fpk s.F p)) e (mn 69)).1, 12)) (lQ := 12) (rf := 0) (R := ring5 a b c d (qP p)) hw hkd hto hk hc hpb hrun rfl (by rw [hrg, hf, hrc, h8]; show _ = rgA s.F s.J s.b (sl s.F 28 4) f 4 ++ _; rw [e28]; exact hr1) trivial trivial (fun e z => by rw [hrc]; exact hr2 e z) (fun _ => rfl) (ring5_len _ _ _ _ _) (by decide) (w := w) (by rw [eS]; exact hown) (by rw [eS]; exact hnd)
        rw [eS] at this
        exact this.mono fun y L' h => fin ⟨by omega, by omega, .inr rfl⟩ (fun i u hi => by rw [hq] at hi; exact ring5_at a b c d (qP p) i u hi) h
      have hf : s.b.rf = 0 ∨ s.b.rf = 1 ∨ s.b.rf = 2 ∨ s.b.rf = 3 := by omega
      rcases hf with hf | hf | hf | hf <;> rw [hf] at ha hb hc' hd
      · exact go (q := ⟨a.fr, a.sq, a.cl, a.n, b.fr, b.sq, b.cl, b.n, c.fr, c.sq, c.cl, c.n, d.fr, d.sq, d.cl, d.n⟩) hf (fu_neg r_fu0) (by rw [cut4 h7 ha hb hc' hd]; exact mapEq ⟨rfl, rfl, trivial⟩) fun e z => mapEq ⟨rfl, rfl, trivial⟩
      · exact go (q := ⟨d.fr, d.sq, d.cl, d.n, a.fr, a.sq, a.cl, a.n, b.fr, b.sq, b.cl, b.n, c.fr, c.sq, c.cl, c.n⟩) hf (fu_neg r_fu1) (by rw [cut4 h7 hd ha hb hc']; exact mapEq ⟨rfl, rfl, trivial⟩) fun e z => mapEq ⟨rfl, rfl, trivial⟩
      · exact go (q := ⟨c.fr, c.sq, c.cl, c.n, d.fr, d.sq, d.cl, d.n, a.fr, a.sq, a.cl, a.n, b.fr, b.sq, b.cl, b.n⟩) hf (fu_neg r_fu2) (by rw [cut4 h7 hc' hd ha hb]; exact mapEq ⟨rfl, rfl, trivial⟩) fun e z => mapEq ⟨rfl, rfl, trivial⟩
      · exact go (q := ⟨b.fr, b.sq, b.cl, b.n, c.fr, c.sq, c.cl, c.n, d.fr, d.sq, d.cl, d.n, a.fr, a.sq, a.cl, a.n⟩) hf (fu_neg r_fu3) (by rw [cut4 h7 hb hc' hd ha]; exact mapEq ⟨rfl, rfl, trivial⟩) fun e z => mapEq ⟨rfl, rfl, trivial⟩
end Go.Proofs.YtpcdcemcjbeajaaGreatDoor
end

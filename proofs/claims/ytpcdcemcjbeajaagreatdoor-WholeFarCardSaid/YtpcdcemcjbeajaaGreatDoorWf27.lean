/- WholeFar: FarLc. -/
import Derived.Test.YtpcdcemcjbeajaaGreatDoorWf02
import Derived.Test.YtpcdcemcjbeajaaGreatDoorWf24
import Derived.Test.YtpcdcemcjbeajaaGreatDoorWf26
set_option linter.unusedVariables false
set_option linter.unusedSimpArgs false
namespace Go.Proofs.YtpcdcemcjbeajaaGreatDoor
open Go Go.RowKit
attribute [local irreducible] X RL W Ctr
theorem el_b4 : ElT Tryz.prog 4 1 1 [.bool false] := ElT.mk' (by kernel_rfl) zt4 rfl rfl
theorem el_u64 : ElT Tryz.prog 28 1 8 [.int .u64 0] := ElT.mk' (by kernel_rfl) zt28 rfl rfl
theorem el_i64 : ElT Tryz.prog 2 1 8 [.int .i64 0] := ElT.mk' (by kernel_rfl) zt2 rfl rfl
theorem bld9 (r : Int) (w : World) : (Instr.build 37 #[(0, .int .i64 9), (2, .int .u64 r)]).run Tryz.prog w = .ok (.agg (actL 9 0 r 0).toArray) w := by kernel_rfl
theorem bld10 (a c : Int) (w : World) : (Instr.build 37 #[(0, .int .i64 10), (1, .int .i64 a), (3, .int .u64 c)]).run Tryz.prog w = .ok (.agg (actL 10 a 0 c).toArray) w := by kernel_rfl
def bools (l : List Bool) : List Value := l.map Value.bool
def i8s (l : List Int) : List Value := l.map (Value.int .i8)
theorem i8s_get {xs : List Int} {i : Nat} {x : Int} (h : xs[i]? = some x) : (i8s xs)[i]? = some (.int .i8 x) := by simp [i8s, h]
def hnds (n : Nat) : List Value := (List.range n).map fun j => Value.int .u64 (refOf j : Nat)
theorem hnds_len (n : Nat) : (hnds n).length = n := by simp [hnds]
theorem hnds_succ (n : Nat) : hnds (n + 1) = hnds n ++ [.int .u64 (refOf n : Nat)] := by simp [hnds, List.range_succ]
theorem hnds_get {n i : Nat} (h : i < n) (jk : List Value) : (hnds n ++ jk)[0 + i * 1]? = some (.int .u64 (refOf i : Nat)) := by
  rw [Nat.zero_add, Nat.mul_one, List.getElem?_append_left (by rw [hnds_len]; exact h)]
  simp [hnds, h]
theorem row_open {e m cp : Nat} {A : Option Addr} {xs : List Value} {Lr : List Ent} (h : Row e 1 (.slice A m cp) xs Lr) (hm : 0 < m) : ∃ b junk, A = some ⟨b, 0, none⟩ ∧ Lr = [(b, cel e (xs ++ junk))] ∧ m + junk.length = cp ∧ xs.length = m := by
  cases h with
  | nil => omega
  | blk b m cp xs junk h1 h2 h3 => exact ⟨b, junk, rfl, rfl, by rw [List.length_append] at h2; omega, by omega⟩
theorem rd_or {w : World} {A : Option Addr} {cs : List Value} (h : Rd w A cs) : cs = [] ∨ ∃ b o, A = some ⟨b, o, none⟩ ∧ CellsAt w b o cs := by
  obtain ⟨b, o, h1, h2⟩ := h
  cases cs with
  | nil => exact .inl rfl
  | cons x l => exact .inr ⟨b, o, h1 (by simp), h2⟩
theorem pmk {A J L R : List Ent} (h : L.Perm (A ++ J)) : ((A ++ R) ++ J).Perm (L ++ R) := by
  refine List.Perm.trans ?_ (h.symm.append_right R)
  rw [List.append_assoc, List.append_assoc]
  exact List.Perm.append_left _ List.perm_append_comm
theorem RL.remN {c : Cx} {Qp : Po} {K : Ko} {ρ : Env} {ds : Ds} {L : List Ent} {ol rest : List Oper} {d : Option Nat} {ty t t' : TypeId} {pos : String} {af : Array Edge} {g : Option (Nat × Bool)} {x y : Operand} {a b : Nat} (hw : wantE c.n ol ρ ⟨d, .binOp .rem t x y t', ty, pos, af, g⟩ = true) (hx : evE c.n ρ x = .int .i64 (a : Int)) (hy : evE c.n ρ y = .int .i64 (b : Int)) (hb : 0 < b) (h : RL c ol rest K Qp (updO ρ d (.int .i64 ((a % b : Nat) : Int))) ds L) : RL c ol (⟨d, .binOp .rem t x y t', ty, pos, af, g⟩ :: rest) K Qp ρ ds L :=
  RL.rem hw hx hy (by omega) (by rw [← Int.ofNat_tmod]; exact h)
theorem i8wrap {n : Int} (h : -128 ≤ n ∧ n ≤ 127) : IntKind.i64.wrap n = n := by
  unfold IntKind.wrap
  simp [IntKind.signed, IntKind.bits]
  omega
theorem pick_nat {x : Int} {n : Nat} (h : 1 ≤ n) : ∃ q : Nat, (if (n : Int) < 1 then 0 else x % (n : Int)) = (q : Int) ∧ q < n := by
  rw [if_neg (by omega)]
  have h1 := Int.emod_nonneg x (show (n : Int) ≠ 0 by omega)
  have h2 := Int.emod_lt_of_pos x (show (0 : Int) < n by omega)
  exact ⟨(x % (n : Int)).toNat, by omega, by omega⟩
theorem evE0 {s : Sta} {g : Gh} {gb H : Nat} (ha : At s g gb H) : HasE (s.F 5).1 (cel 50 (vals (g.evs.flatMap Ew.cells) ++ s.J 5)) (blocks s) := by
  have h := evsE ha []
  rwa [List.append_nil] at h
def Ew.cl : Ew → List Value
  | .tref id => [.int .i64 1, .int .u64 (id : Int), .int .i64 0, .int .i64 0, .int .i64 0, .int .i64 0]
  | .call id => [.int .i64 2, .int .u64 (id : Int), .int .i64 0, .int .i64 0, .int .i64 0, .int .i64 0]
  | .run v n => [.int .i64 4, .int .u64 4294967297, .int .i64 0, .int .i64 v, .int .i64 n, .int .i64 0]
  | .done id v => [.int .i64 3, .int .u64 (id : Int), .int .i64 0, .int .i64 v, .int .i64 0, .int .i64 0]
theorem Ew.cl_eq (e : Ew) : vals e.cells = e.cl := by cases e <;> rfl
theorem ev_get (J : List Value) {k : Nat} (hk : k < 6) : ∀ {l : List Ew} {i : Nat} {e : Ew}, l[i]? = some e → (vals (l.flatMap Ew.cells) ++ J)[0 + i * 6 + k]? = e.cl[k]?
  | a :: l, 0, e, h => by
    injection h with h; subst h
    have hl : (vals a.cells).length = 6 := by unfold vals; rw [List.length_map, Ew.len]
    show (vals (a.cells ++ l.flatMap Ew.cells) ++ J)[0 + 0 * 6 + k]? = _
    unfold vals at hl ⊢
    rw [List.map_append, List.append_assoc, List.getElem?_append_left (by omega), ← Ew.cl_eq]
    simp [vals]
  | a :: l, i + 1, e, h => by
    have hl : (vals a.cells).length = 6 := by unfold vals; rw [List.length_map, Ew.len]
    have h1 := ev_get J hk (l := l) (i := i) (e := e) h
    rw [← h1]
    show (vals (a.cells ++ l.flatMap Ew.cells) ++ J)[0 + (i + 1) * 6 + k]? = _
    have e1 : vals (a.cells ++ l.flatMap Ew.cells) = vals a.cells ++ vals (l.flatMap Ew.cells) := by unfold vals; rw [List.map_append]
    rw [e1, List.append_assoc, List.getElem?_append_right (by omega), hl]
    congr 1; omega
theorem take_snoc {α : Type} {l : List α} {i : Nat} {e : α} (h : l[i]? = some e) : l.take (i + 1) = l.take i ++ [e] := by rw [List.take_add_one, h]; rfl
theorem tdW_le : ∀ l : List Ew, (tdW l).length ≤ l.length
  | [] => Nat.le_refl _
  | .run _ _ :: l => Nat.succ_le_succ (tdW_le l)
  | .call _ :: l => Nat.le_succ_of_le (tdW_le l)
  | .tref _ :: l => Nat.le_succ_of_le (tdW_le l)
  | .done _ _ :: l => Nat.le_succ_of_le (tdW_le l)
theorem vlW_bd : ∀ l : List Ew, okW l → ∀ i, i ≤ l.length → -(128 * (i : Int)) ≤ vlW (l.take i) ∧ vlW (l.take i) ≤ 128 * (i : Int)
  | l, h, 0, _ => by simp [vlW]
  | l, h, i + 1, hi => by
    have h1 := vlW_bd l h i (by omega)
    obtain ⟨e, he⟩ : ∃ e, l[i]? = some e := ⟨_, List.getElem?_eq_getElem (by omega)⟩
    have h2 := h i e he
    rw [take_snoc he, vlW_app]
    cases e with
    | run v n => have h2 : _ ∧ -128 ≤ n ∧ n ≤ 127 := h2; have : vlW [Ew.run v n] = n + 0 := rfl; omega
    | tref => have : vlW [Ew.tref ‹_›] = 0 := rfl; omega
    | call => have : vlW [Ew.call ‹_›] = 0 := rfl; omega
    | done => have : vlW [Ew.done ‹_› ‹_›] = 0 := rfl; omega
theorem pend0 {s : Sta} {qs : List Qe} (h1 : s.net = []) (h2 : qs = []) (h3 : potT s.t0 = 0) : pend s qs = 0 := by
  unfold pend penT
  rw [h1, h2]
  cases e : s.t0 <;> rw [e] at h3 <;> first | (simp [sumI]; done) | (cases h3)
def Begins (K : Ih) (many : List Bool) : Prop := ∃ (h : Nat) (fl : Nat → Bool), h ≤ 3 ∧ ∀ {bb cap : Nat} {jk : List Value} {w : World}, many.length + 1 + jk.length = cap → w.heap[bb]? = some (cel 4 ((.bool false :: bools many) ++ jk)) →
  Ctr Tryz.prog 4 [.slice (some ⟨bb, 0, none⟩) (many.length + 1) cap] w [(bb, cel 4 ((.bool false :: bools many) ++ jk))] fun x L' => ∃ gb, x = .pointer (some ⟨gb, 0, none⟩) ∧ Stu h gb fl (fun hp nx => okc (K (.F 6 [gV h, .s (iI 0)] hp nx)) (.s (iU 4294967297)) fun h1 n1 => okc (K (.F 7 [gV h, actO 9 (iI 0) (iU 4294967297) (iU 0)] h1 n1)) (.s (iU 4294967297)) (gets K h (h + 1) 0)) L'
set_option maxHeartbeats 2000000 in
theorem w_far {K : Ih} (hS : Snd Tryz.prog K) (many : List Bool) (hB : Begins K many) (hW : ∀ w, Ctr Tryz.prog 5 [] w [] fun v _ => v = .bool true) (adds picks : List Int) (A0 A1 A2 : Option Addr) (c0 c1 c2 : Nat) (w : World) (hm : many.length ≤ 140737488351232) (hr0 : Rd w A0 (bools many)) (hr1 : Rd w A1 (i8s adds)) (hr2 : Rd w A2 (ints picks)) (hn : ∀ n ∈ adds, -128 ≤ n ∧ n ≤ 127) :
    Ctr Tryz.prog 3 [.slice A0 many.length c0, .slice A1 adds.length c1, .slice A2 picks.length c2] w [] fun v _ => v = .bool true := by
 obtain ⟨h, fl, h3, hbeg⟩ := hB
 obtain ⟨ba, oa, hA1, hA2⟩ := hr1
 obtain ⟨bp, op, hP1, hP2⟩ := hr2
 rw [show (i8s adds).length = adds.length by simp [i8s]] at hA1
 rw [ints_length] at hP1
 refine Ctr.intro0 (n := 195) Tryz.func3 rfl Tryz.ntmps3 (Nat.le_of_ble_eq_true rfl) ?_
 refine X.seq ?_
 refine X.region rfl ?_
 refine RL.assign rfl ?_
 refine RL.nil ?_
 refine X.seq ?_
 refine X.region rfl ?_
 refine RL.bs1 rfl rfl sl22 zt4 (l := [.bool false]) rfl rfl rfl (by decide) ?_
 intro b1 hb1
 refine RL.move rfl ?_
 refine RL.append (n := many.length) (Lr := [(b1, cel 4 [.bool false])]) (Lz := []) (xs := [.bool false]) (ys := bools many) rfl rfl sl22 el_b4 (by decide) (by decide) Tryz.underlying22 (List.Perm.refl _) rfl (Row.blk b1 1 1 [.bool false] [] rfl rfl (Nat.le_refl _)) rfl (by simp [bools]) (fun u hu => by obtain ⟨b, _, rfl⟩ := List.mem_map.1 hu; rfl) (fun w2 hw2 => ?_) (fun m hm1 => ?_) ?_
 · rcases rd_or hr0 with h | ⟨b, o, hb1, hb2⟩
   · exact .inl h
   · exact .inr ⟨b, o, hb1, hw2.cellsI hb2 (by simp)⟩
 · simp only [List.length_cons, List.length_nil] at hm1; omega
 intro vr Lr hrow
 obtain ⟨Ar, mr, cr, rfl, hml, _, _⟩ := hrow.slice (by decide)
 obtain rfl : mr = many.length + 1 := by simp [bools] at hml; omega
 obtain ⟨bb, jk, rfl, rfl, hcap, hxl⟩ := row_open hrow (by omega)
 refine RL.fn (Lp := [(bb, cel 4 ((.bool false :: bools many) ++ jk))]) (Lr := []) rfl rfl rfl en4 (List.Perm.refl _) (fun w1 hw1 => hbeg hcap (hw1.own _ List.mem_cons_self)) rfl ?_
 rintro _ Lg0 ⟨gb, rfl, hst0⟩
 refine RL.perm (L' := Lg0) rfl (by rw [List.append_nil]) ?_
 refine RL.assign rfl ?_
 refine RL.nil ?_
 refine X.seq ?_
 refine X.seq ?_
 refine X.region rfl ?_
 refine RL.move rfl ?_
 refine RL.eqP rfl Tryz.underlying25 rfl rfl rfl ?_
 refine RL.move rfl ?_
 refine RL.move rfl ?_
 refine RL.len rfl sl23 rfl ?_
 refine RL.cmp_s rfl rfl rfl rfl (fun hlen => ?_) (fun hlen => ?_)
 ·replace hlen : (_ : Int) > _ := hlen
  refine RL.pick_f rfl rfl ?_
  refine RL.nil ?_
  refine X.cond_t rfl ?_
  refine X.seq ?_
  refine X.region rfl ?_
  refine RL.move rfl ?_
  refine RL.neP rfl Tryz.underlying25 rfl rfl rfl ?_
  refine RL.move rfl ?_
  refine RL.fn0 rfl rfl rfl en5 (fun w hw => (hW w)) rfl ?_
  rintro _ _ rfl
  refine RL.pick_t rfl rfl ?_
  refine RL.assign rfl ?_
  refine RL.nil ?_
  refine X.ret ?_
  exact ret1 rfl rfl
 replace hlen : ¬ ((_ : Int) > _) := hlen
 refine RL.pick_f rfl rfl ?_
 refine RL.nil ?_
 refine X.cond_f rfl ?_
 refine X.skip ?_
 refine X.seq ?_
 refine X.region rfl ?_
 refine RL.move rfl ?_
 refine RL.fn (Lp := Lg0) (Lr := []) rfl rfl rfl en6 (by rw [List.append_nil]) (fun w1 hw1 => stg_made hS (fun p hp => hw1.own p (List.mem_append_left _ hp)) (hw1.nodup.sublist ((List.sublist_append_left _ _).map _)) hst0) rfl ?_
 rintro _ Lg1 ⟨rfl, hst1⟩
 refine RL.perm (L' := Lg1) rfl (by rw [List.append_nil]) ?_
 refine RL.assign rfl ?_
 refine RL.nil ?_
 refine X.seq ?_
 refine X.region rfl ?_
 refine RL.move rfl ?_
 refine RL.move rfl ?_
 refine RL.bldC (vs := [(0, .int .i64 9), (2, .int .u64 4294967297)]) (cells := actL 9 0 4294967297 0) rfl rfl (fun w => bld9 4294967297 w) ?_
 refine RL.fn (Lp := Lg1) (Lr := []) rfl rfl rfl en7 (by rw [List.append_nil]) (fun w1 hw1 => stg_put hS (fun p hp => hw1.own p (List.mem_append_left _ hp)) (hw1.nodup.sublist ((List.sublist_append_left _ _).map _)) hst1) rfl ?_
 rintro _ Lg2 ⟨rfl, hst2⟩
 refine RL.perm (L' := Lg2) rfl (by rw [List.append_nil]) ?_
 refine RL.assign rfl ?_
 refine RL.nil ?_
 refine X.seq ?_
 refine X.region rfl ?_
 refine RL.assign rfl ?_
 refine RL.nil ?_
 refine X.seq ?_
 refine X.seq ?_
 refine X.region rfl ?_
 refine RL.assign rfl ?_
 refine RL.nil ?_
 refine X.block ?_
 refine X.loop (γ := Nat) (fun i ρ L => ∃ Lg : List Ent, ∃ Lv : List Ent, ∃ Ah : Option Addr, ∃ ch : Nat, (i ≤ h + 1) ∧ (Stu h gb fl (gets K h (h + 1 - i) i) Lg) ∧ (Row 28 1 (.slice Ah i ch) (hnds i) Lv) ∧ Has ρ [(1, .slice A1 adds.length c1), (2, .slice A2 picks.length c2), (7, .pointer (some ⟨gb, 0, none⟩)), (9, .int .u64 4294967297), (10, .slice Ah i ch), (11, .int .i64 i)] ∧ L = Lv ++ Lg) (fun i => h + 1 - i) (0) ⟨_, (by repeat (first | exact sb0 _ | exact sb1 _ | (rw [List.append_nil]; exact sb0 _) | exact sb2 _ _ | exact sb3 _ _ _ | apply sb4 | apply sb5 | apply sb6)), Lg2, [], none, 0, Nat.zero_le _, hst2, Row.nil, ⟨rfl, rfl, rfl, rfl, rfl, rfl, trivial⟩, rfl⟩ ?_
 rintro i _ _ ⟨Lg, Lv, Ah, ch, hi, hst, hrow, hρ, rfl⟩
 obtain ⟨base, rfl⟩ := hρ.base
 clear hρ
 obtain ⟨gu, gv, hgm⟩ := stg_homes hst
 refine X.seq ?_
 refine X.seq ?_
 refine X.region rfl ?_
 refine RL.move rfl ?_
 refine RL.move rfl ?_
 refine RL.nilCheck rfl rfl ?_
 refine RL.fieldAddr rfl fd42_1 rfl ?_
 refine RL.loadO (hm := ⟨List.mem_append_right _ hgm⟩) rfl sc3 rfl rfl ?_
 refine RL.cmp_s rfl rfl rfl rfl (fun hlt => ?_) (fun hlt => ?_)
 ·replace hlt : (_ : Int) < _ := hlt
  obtain ⟨n, hn1⟩ : ∃ n, h + 1 - i = n + 1 := ⟨h - i, by omega⟩
  rw [hn1] at hst
  obtain rfl : n = h - i := by omega
  refine RL.nil ?_
  refine X.cond_t rfl ?_
  refine X.skip ?_
  refine X.seq ?_
  refine X.block ?_
  refine X.region rfl ?_
  refine RL.move rfl ?_
  refine RL.move rfl ?_
  refine RL.move rfl ?_
  refine RL.move rfl ?_
  refine RL.bldC (vs := [(0, .int .i64 10), (1, .int .i64 (i : Int)), (3, .int .u64 4294967297)]) (cells := actL 10 i 0 4294967297) rfl rfl (fun w => bld10 i 4294967297 w) ?_
  refine RL.fn (Lp := Lg) (Lr := Lv) rfl rfl rfl en7 List.perm_append_comm (fun w1 hw1 => stg_get hS (fun p hp => hw1.own p (List.mem_append_left _ hp)) (hw1.nodup.sublist ((List.sublist_append_left _ _).map _)) hst) rfl ?_
  rintro _ Lg3 ⟨rfl, hst3⟩
  refine RL.bs1I rfl rfl sl38 zt28 rfl ?_
  intro b5 hb5
  refine RL.app1I (Lr := Lv) (Lz := Lg3) (xs := hnds i) rfl rfl sl38 el_u64 Tryz.underlying38 List.perm_append_comm rfl rfl hrow (by rw [hnds_len]; omega) (n := i + 1) (by rw [hnds_len]) ?_
  intro A4 c4 Lr4 hr4
  refine RL.assign rfl ?_
  refine RL.nil ?_
  refine X.blk ?_
  refine X.region rfl ?_
  refine RL.move rfl ?_
  refine RL.add rfl rfl rfl (by omega) ?_
  refine RL.assign rfl ?_
  refine RL.nil ?_
  refine X.hyp ⟨rfl, i + 1, by omega, _, ((List.Sublist.refl _).append (List.sublist_append_left _ _)), Lg3, Lr4, A4, c4, by omega, (by rw [show h + 1 - (i + 1) = h - i by omega]; exact hst3), by rw [hnds_succ]; exact hr4, ⟨rfl, rfl, rfl, rfl, rfl, rfl, trivial⟩, rfl⟩
 replace hlt : ¬ ((_ : Int) < _) := hlt
 obtain rfl : i = h + 1 := by omega
 rw [Nat.sub_self] at hst
 obtain ⟨s, g, Jk0, hLg, hgood, hgF, hgH, hgs, hgn⟩ := stg_end h3 hst
 have ha : At s g gb h := ⟨hgood, hgF, hgH⟩
 obtain ⟨bh, jh, rfl, rfl, -, -⟩ := row_open hrow (by omega)
 refine RL.nil ?_
 refine X.cond_f rfl ?_
 refine X.exit rfl ?_
 refine X.seq ?_
 refine X.region rfl ?_
 refine RL.perm (L' := (blocks s ++ [(bh, cel 28 (hnds (h + 1) ++ jh))]) ++ Jk0) rfl ((pmk hLg).trans List.perm_append_comm) ?_
 refine RL.drop (L' := blocks s ++ [(bh, cel 28 (hnds (h + 1) ++ jh))]) rfl (List.sublist_append_left _ _) ?_
 refine RL.assign rfl ?_
 refine RL.nil ?_
 refine X.seq ?_
 refine X.seq ?_
 refine X.region rfl ?_
 refine RL.assign rfl ?_
 refine RL.nil ?_
 refine X.block ?_
 refine X.loop (γ := Nat) (fun i ρ L => ∃ s2 : Sta, ∃ g2 : Gh, (At s2 g2 gb h) ∧ (i ≤ adds.length) ∧ (g2.nc ≤ i) ∧ (-(128 * (i : Int)) ≤ g2.sum ∧ g2.sum ≤ 128 * (i : Int)) ∧ Has ρ [(1, .slice A1 adds.length c1), (2, .slice A2 picks.length c2), (7, .pointer (some ⟨gb, 0, none⟩)), (10, .slice (some ⟨bh, 0, none⟩) (h + 1) ch), (12, .int .i64 g2.sum), (13, .int .i64 i)] ∧ L = blocks s2 ++ [(bh, cel 28 (hnds (h + 1) ++ jh))]) (fun i => adds.length - i) (0) ⟨_, (by repeat (first | exact sb0 _ | exact sb1 _ | (rw [List.append_nil]; exact sb0 _) | exact sb2 _ _ | exact sb3 _ _ _ | apply sb4 | apply sb5 | apply sb6)), s, g, ha, Nat.zero_le _, Nat.le_of_eq hgn, by rw [hgs]; decide, ⟨rfl, rfl, rfl, rfl, congrArg (Value.int .i64) hgs.symm, rfl, trivial⟩, rfl⟩ ?_
 rintro i _ _ ⟨s2, g2, ha2, hi2, hnc2, hsm2, hρ, rfl⟩
 obtain ⟨base, rfl⟩ := hρ.base
 clear hρ
 refine X.seq ?_
 refine X.seq ?_
 refine X.region rfl ?_
 refine RL.move rfl ?_
 refine RL.move rfl ?_
 refine RL.len rfl sl23 rfl ?_
 refine RL.cmp_s rfl rfl rfl rfl (fun hlt => ?_) (fun hlt => ?_)
 ·replace hlt : (_ : Int) < _ := hlt
  obtain ⟨n, hna⟩ : ∃ n, adds[i]? = some n := ⟨_, List.getElem?_eq_getElem (by omega)⟩
  have hnb := hn n (List.mem_of_getElem? hna)
  have hat : i % (h + 1) < h + 1 := Nat.mod_lt _ (by omega)
  obtain ⟨k, hk⟩ : ∃ k, k = i % (h + 1) := ⟨_, rfl⟩
  rw [← hk] at hat
  refine RL.nil ?_
  refine X.cond_t rfl ?_
  refine X.skip ?_
  refine X.seq ?_
  refine X.block ?_
  refine X.seq ?_
  refine X.region rfl ?_
  refine RL.move rfl ?_
  refine RL.move rfl ?_
  refine RL.nilCheck rfl rfl ?_
  refine RL.fieldAddr rfl fd42_1 rfl ?_
  refine RL.loadO (hm := gL ha2 _) rfl sc3 rfl rfl ?_
  refine RL.remN rfl rfl rfl (by omega) ?_
  rw [← hk]
  refine RL.assign rfl ?_
  refine RL.nil ?_
  refine X.seq ?_
  refine X.seq ?_
  refine X.set [.val (.pointer (some ⟨gb, 0, none⟩)), .val (.int .i64 k), .val (.slice (some ⟨bh, 0, none⟩) (h + 1) ch), .val (.int .i64 k), .val (.pointer (some ⟨bh, 0 + k * 1, none⟩)), .val (.int .u64 (refOf k : Nat)), .val (.slice A1 adds.length c1), .val (.int .i64 i), .val (.pointer (some ⟨ba, oa + i * 1, none⟩)), .val (.int .i8 n), .val (.int .i64 n), .val (.agg (actC 5 k (refOf k : Nat) n).toArray), .any, .any, .any, .any, .any, .any] [[], [], [], [], [2, 3], [2, 3, 4], [], [], [6, 7], [6, 7, 8], [6, 7, 8, 9], [1, 2, 3, 4, 5, 6, 7, 8, 9, 10], [0, 1, 2, 3, 4, 5, 6, 7, 8, 9, 10, 11], [0, 1, 2, 3, 4, 5, 6, 7, 8, 9, 10, 11, 12], [0, 1, 2, 3, 4, 5, 6, 7, 8, 9, 10, 11, 12, 13], [0, 1, 2, 3, 4, 5, 6, 7, 8, 9, 10, 11, 12, 13], [0, 1, 2, 3, 4, 5, 6, 7, 8, 9, 10, 11, 12, 13, 14], [0, 1, 2, 3, 4, 5, 6, 7, 8, 9, 10, 11, 12, 13, 14, 15, 16]] (fun D ρ L => (D 12 = false ∧ D 13 = false ∧ D 15 = false ∧ D 17 = false ∧ True ∧ Has ρ [] ∧ L.Perm ((blocks s2) ++ ([(bh, cel 28 (hnds (h + 1) ++ jh))]))) ∨ (D 12 = true ∧ D 13 = false ∧ D 15 = false ∧ D 17 = false ∧ True ∧ ∃ s3 : Sta, ∃ g3 : Gh, ∃ v3 : Value, ∃ c3 : Nat, (At s3 g3 gb h) ∧ (c3 = 0 ∧ g3.sum = g2.sum + n ∧ g3.nc = g2.nc + 1 ∨ c3 = 9 ∧ g3 = g2) ∧ Has ρ [(83, .tuple #[v3, .int .i64 (c3 : Int)])] ∧ L.Perm ((blocks s3) ++ ([(bh, cel 28 (hnds (h + 1) ++ jh))]))) ∨ (D 12 = true ∧ D 13 = true ∧ D 15 = false ∧ D 17 = false ∧ True ∧ ∃ s3 : Sta, ∃ g3 : Gh, ∃ v3 : Value, ∃ c3 : Nat, (At s3 g3 gb h) ∧ (c3 = 0 ∧ g3.sum = g2.sum + n ∧ g3.nc = g2.nc + 1 ∨ c3 = 9 ∧ g3 = g2) ∧ Has ρ [(70, .tuple #[v3, .int .i64 (c3 : Int)]), (83, .tuple #[v3, .int .i64 (c3 : Int)])] ∧ L.Perm ((blocks s3) ++ ([(bh, cel 28 (hnds (h + 1) ++ jh))]))) ∨ (D 12 = true ∧ D 13 = true ∧ D 15 = true ∧ D 17 = false ∧ True ∧ ∃ s3 : Sta, ∃ g3 : Gh, ∃ v3 : Value, ∃ c3 : Nat, (At s3 g3 gb h) ∧ (c3 = 0 ∧ g3.sum = g2.sum + n ∧ g3.nc = g2.nc + 1 ∨ c3 = 9 ∧ g3 = g2) ∧ Has ρ [(70, .tuple #[v3, .int .i64 (c3 : Int)]), (83, .tuple #[v3, .int .i64 (c3 : Int)]), (85, .int .i64 (c3 : Int))] ∧ L.Perm ((blocks s3) ++ ([(bh, cel 28 (hnds (h + 1) ++ jh))]))) ∨ (D 12 = true ∧ D 13 = true ∧ D 15 = true ∧ D 17 = true ∧ True ∧ ∃ s3 : Sta, ∃ g3 : Gh, ∃ v3 : Value, ∃ c3 : Nat, (At s3 g3 gb h) ∧ (c3 = 0 ∧ g3.sum = g2.sum + n ∧ g3.nc = g2.nc + 1 ∨ c3 = 9 ∧ g3 = g2) ∧ Has ρ [(16, .int .i64 (c3 : Int)), (70, .tuple #[v3, .int .i64 (c3 : Int)]), (83, .tuple #[v3, .int .i64 (c3 : Int)]), (85, .int .i64 (c3 : Int))] ∧ L.Perm ((blocks s3) ++ ([(bh, cel 28 (hnds (h + 1) ++ jh))])))) rfl (by kernel_rfl) (by kernel_rfl) (by kernel_rfl) (by kernel_rfl) (fun D hD => .inl ⟨hD 12, hD 13, hD 15, hD 17, trivial, trivial, (pmm fun _ _ z => by simp only [pm1, pm2, pm3, pm4, pm5, pm6, List.cons_append, List.nil_append] <;> omega)⟩) ⟨?_, ?_, ?_, ?_, ?_, ?_, ?_, ?_, ?_, ?_, ?_, ?_, ?_, ?_, ?_, ?_, ?_, ?_, trivial⟩ ?_
  ·intro ρ L D hS
   rcases hS.sp with ⟨e12, e13, e15, e17, -, hρ, hL⟩ | ⟨e12, e13, e15, e17, -, s3, g3, v3, c3, hp0, hp1, hρ, hL⟩ | ⟨e12, e13, e15, e17, -, s3, g3, v3, c3, hp0, hp1, hρ, hL⟩ | ⟨e12, e13, e15, e17, -, s3, g3, v3, c3, hp0, hp1, hρ, hL⟩ | ⟨e12, e13, e15, e17, -, s3, g3, v3, c3, hp0, hp1, hρ, hL⟩
   ·have u7 : ρ 7 = .pointer (some ⟨gb, 0, none⟩) := hS.fix 7 (by decide)
    clear hS hρ
    obtain ⟨base, rfl⟩ := Has.base (ρ := ρ) (l := [(7, .pointer (some ⟨gb, 0, none⟩))]) ⟨u7, trivial⟩
    clear u7
    refine RL.perm rfl hL.symm ?_
    clear hL
    refine RL.move rfl ?_
    refine RL.nil ?_
    exact ⟨rfl, ⟨_, rfl, rfl⟩, .inl ⟨e12, e13, e15, e17, trivial, trivial, List.Perm.refl _⟩⟩
   ·exact hS.hi 12 rfl (by kernel_rfl) e12
   ·exact hS.hi 12 rfl (by kernel_rfl) e12
   ·exact hS.hi 12 rfl (by kernel_rfl) e12
   exact hS.hi 12 rfl (by kernel_rfl) e12
  ·intro ρ L D hS
   rcases hS.sp with ⟨e12, e13, e15, e17, -, hρ, hL⟩ | ⟨e12, e13, e15, e17, -, s3, g3, v3, c3, hp0, hp1, hρ, hL⟩ | ⟨e12, e13, e15, e17, -, s3, g3, v3, c3, hp0, hp1, hρ, hL⟩ | ⟨e12, e13, e15, e17, -, s3, g3, v3, c3, hp0, hp1, hρ, hL⟩ | ⟨e12, e13, e15, e17, -, s3, g3, v3, c3, hp0, hp1, hρ, hL⟩
   ·have u14 : ρ 14 = .int .i64 k := hS.fix 14 (by decide)
    clear hS hρ
    obtain ⟨base, rfl⟩ := Has.base (ρ := ρ) (l := [(14, .int .i64 k)]) ⟨u14, trivial⟩
    clear u14
    refine RL.perm rfl hL.symm ?_
    clear hL
    refine RL.move rfl ?_
    refine RL.nil ?_
    exact ⟨rfl, ⟨_, rfl, rfl⟩, .inl ⟨e12, e13, e15, e17, trivial, trivial, List.Perm.refl _⟩⟩
   ·exact hS.hi 12 rfl (by kernel_rfl) e12
   ·exact hS.hi 12 rfl (by kernel_rfl) e12
   ·exact hS.hi 12 rfl (by kernel_rfl) e12
   exact hS.hi 12 rfl (by kernel_rfl) e12
  ·intro ρ L D hS
   rcases hS.sp with ⟨e12, e13, e15, e17, -, hρ, hL⟩ | ⟨e12, e13, e15, e17, -, s3, g3, v3, c3, hp0, hp1, hρ, hL⟩ | ⟨e12, e13, e15, e17, -, s3, g3, v3, c3, hp0, hp1, hρ, hL⟩ | ⟨e12, e13, e15, e17, -, s3, g3, v3, c3, hp0, hp1, hρ, hL⟩ | ⟨e12, e13, e15, e17, -, s3, g3, v3, c3, hp0, hp1, hρ, hL⟩
   ·have u10 : ρ 10 = .slice (some ⟨bh, 0, none⟩) (h + 1) ch := hS.fix 10 (by decide)
    clear hS hρ
    obtain ⟨base, rfl⟩ := Has.base (ρ := ρ) (l := [(10, .slice (some ⟨bh, 0, none⟩) (h + 1) ch)]) ⟨u10, trivial⟩
    clear u10
    refine RL.perm rfl hL.symm ?_
    clear hL
    refine RL.move rfl ?_
    refine RL.nil ?_
    exact ⟨rfl, ⟨_, rfl, rfl⟩, .inl ⟨e12, e13, e15, e17, trivial, trivial, List.Perm.refl _⟩⟩
   ·exact hS.hi 12 rfl (by kernel_rfl) e12
   ·exact hS.hi 12 rfl (by kernel_rfl) e12
   ·exact hS.hi 12 rfl (by kernel_rfl) e12
   exact hS.hi 12 rfl (by kernel_rfl) e12
  ·intro ρ L D hS
   rcases hS.sp with ⟨e12, e13, e15, e17, -, hρ, hL⟩ | ⟨e12, e13, e15, e17, -, s3, g3, v3, c3, hp0, hp1, hρ, hL⟩ | ⟨e12, e13, e15, e17, -, s3, g3, v3, c3, hp0, hp1, hρ, hL⟩ | ⟨e12, e13, e15, e17, -, s3, g3, v3, c3, hp0, hp1, hρ, hL⟩ | ⟨e12, e13, e15, e17, -, s3, g3, v3, c3, hp0, hp1, hρ, hL⟩
   ·have u14 : ρ 14 = .int .i64 k := hS.fix 14 (by decide)
    clear hS hρ
    obtain ⟨base, rfl⟩ := Has.base (ρ := ρ) (l := [(14, .int .i64 k)]) ⟨u14, trivial⟩
    clear u14
    refine RL.perm rfl hL.symm ?_
    clear hL
    refine RL.move rfl ?_
    refine RL.nil ?_
    exact ⟨rfl, ⟨_, rfl, rfl⟩, .inl ⟨e12, e13, e15, e17, trivial, trivial, List.Perm.refl _⟩⟩
   ·exact hS.hi 12 rfl (by kernel_rfl) e12
   ·exact hS.hi 12 rfl (by kernel_rfl) e12
   ·exact hS.hi 12 rfl (by kernel_rfl) e12
   exact hS.hi 12 rfl (by kernel_rfl) e12
  ·intro ρ L D hS
   rcases hS.sp with ⟨e12, e13, e15, e17, -, hρ, hL⟩ | ⟨e12, e13, e15, e17, -, s3, g3, v3, c3, hp0, hp1, hρ, hL⟩ | ⟨e12, e13, e15, e17, -, s3, g3, v3, c3, hp0, hp1, hρ, hL⟩ | ⟨e12, e13, e15, e17, -, s3, g3, v3, c3, hp0, hp1, hρ, hL⟩ | ⟨e12, e13, e15, e17, -, s3, g3, v3, c3, hp0, hp1, hρ, hL⟩
   ·have u73 : ρ 73 = .slice (some ⟨bh, 0, none⟩) (h + 1) ch := hS.dep ⟨2, Ground.data⟩ (by simp) rfl _ _ rfl rfl
    have u74 : ρ 74 = .int .i64 k := hS.dep ⟨3, Ground.data⟩ (by simp) rfl _ _ rfl rfl
    clear hS hρ
    obtain ⟨base, rfl⟩ := Has.base (ρ := ρ) (l := [(73, .slice (some ⟨bh, 0, none⟩) (h + 1) ch), (74, .int .i64 k)]) ⟨u73, u74, trivial⟩
    clear u73 u74
    refine RL.perm rfl hL.symm ?_
    clear hL
    refine RL.indexAddr rfl sl38 rfl rfl rfl rfl hat ?_
    refine RL.nil ?_
    exact ⟨rfl, ⟨_, rfl, rfl⟩, .inl ⟨e12, e13, e15, e17, trivial, trivial, List.Perm.refl _⟩⟩
   ·exact hS.hi 12 rfl (by kernel_rfl) e12
   ·exact hS.hi 12 rfl (by kernel_rfl) e12
   ·exact hS.hi 12 rfl (by kernel_rfl) e12
   exact hS.hi 12 rfl (by kernel_rfl) e12
  ·intro ρ L D hS
   rcases hS.sp with ⟨e12, e13, e15, e17, -, hρ, hL⟩ | ⟨e12, e13, e15, e17, -, s3, g3, v3, c3, hp0, hp1, hρ, hL⟩ | ⟨e12, e13, e15, e17, -, s3, g3, v3, c3, hp0, hp1, hρ, hL⟩ | ⟨e12, e13, e15, e17, -, s3, g3, v3, c3, hp0, hp1, hρ, hL⟩ | ⟨e12, e13, e15, e17, -, s3, g3, v3, c3, hp0, hp1, hρ, hL⟩
   ·have u75 : ρ 75 = .pointer (some ⟨bh, 0 + k * 1, none⟩) := hS.dep ⟨4, Ground.data⟩ (by simp) rfl _ _ rfl rfl
    clear hS hρ
    obtain ⟨base, rfl⟩ := Has.base (ρ := ρ) (l := [(75, .pointer (some ⟨bh, 0 + k * 1, none⟩))]) ⟨u75, trivial⟩
    clear u75
    refine RL.perm rfl hL.symm ?_
    clear hL
    refine RL.loadO (hm := ⟨List.mem_append_right _ List.mem_cons_self⟩) rfl sc28 rfl (hnds_get hat jh) ?_
    refine RL.nil ?_
    exact ⟨rfl, ⟨_, rfl, rfl⟩, .inl ⟨e12, e13, e15, e17, trivial, trivial, List.Perm.refl _⟩⟩
   ·exact hS.hi 12 rfl (by kernel_rfl) e12
   ·exact hS.hi 12 rfl (by kernel_rfl) e12
   ·exact hS.hi 12 rfl (by kernel_rfl) e12
   exact hS.hi 12 rfl (by kernel_rfl) e12
  ·intro ρ L D hS
   rcases hS.sp with ⟨e12, e13, e15, e17, -, hρ, hL⟩ | ⟨e12, e13, e15, e17, -, s3, g3, v3, c3, hp0, hp1, hρ, hL⟩ | ⟨e12, e13, e15, e17, -, s3, g3, v3, c3, hp0, hp1, hρ, hL⟩ | ⟨e12, e13, e15, e17, -, s3, g3, v3, c3, hp0, hp1, hρ, hL⟩ | ⟨e12, e13, e15, e17, -, s3, g3, v3, c3, hp0, hp1, hρ, hL⟩
   ·have u1 : ρ 1 = .slice A1 adds.length c1 := hS.fix 1 (by decide)
    clear hS hρ
    obtain ⟨base, rfl⟩ := Has.base (ρ := ρ) (l := [(1, .slice A1 adds.length c1)]) ⟨u1, trivial⟩
    clear u1
    refine RL.perm rfl hL.symm ?_
    clear hL
    refine RL.move rfl ?_
    refine RL.nil ?_
    exact ⟨rfl, ⟨_, rfl, rfl⟩, .inl ⟨e12, e13, e15, e17, trivial, trivial, List.Perm.refl _⟩⟩
   ·exact hS.hi 12 rfl (by kernel_rfl) e12
   ·exact hS.hi 12 rfl (by kernel_rfl) e12
   ·exact hS.hi 12 rfl (by kernel_rfl) e12
   exact hS.hi 12 rfl (by kernel_rfl) e12
  ·intro ρ L D hS
   rcases hS.sp with ⟨e12, e13, e15, e17, -, hρ, hL⟩ | ⟨e12, e13, e15, e17, -, s3, g3, v3, c3, hp0, hp1, hρ, hL⟩ | ⟨e12, e13, e15, e17, -, s3, g3, v3, c3, hp0, hp1, hρ, hL⟩ | ⟨e12, e13, e15, e17, -, s3, g3, v3, c3, hp0, hp1, hρ, hL⟩ | ⟨e12, e13, e15, e17, -, s3, g3, v3, c3, hp0, hp1, hρ, hL⟩
   ·have u13 : ρ 13 = .int .i64 i := hS.fix 13 (by decide)
    clear hS hρ
    obtain ⟨base, rfl⟩ := Has.base (ρ := ρ) (l := [(13, .int .i64 i)]) ⟨u13, trivial⟩
    clear u13
    refine RL.perm rfl hL.symm ?_
    clear hL
    refine RL.move rfl ?_
    refine RL.nil ?_
    exact ⟨rfl, ⟨_, rfl, rfl⟩, .inl ⟨e12, e13, e15, e17, trivial, trivial, List.Perm.refl _⟩⟩
   ·exact hS.hi 12 rfl (by kernel_rfl) e12
   ·exact hS.hi 12 rfl (by kernel_rfl) e12
   ·exact hS.hi 12 rfl (by kernel_rfl) e12
   exact hS.hi 12 rfl (by kernel_rfl) e12
  ·intro ρ L D hS
   rcases hS.sp with ⟨e12, e13, e15, e17, -, hρ, hL⟩ | ⟨e12, e13, e15, e17, -, s3, g3, v3, c3, hp0, hp1, hρ, hL⟩ | ⟨e12, e13, e15, e17, -, s3, g3, v3, c3, hp0, hp1, hρ, hL⟩ | ⟨e12, e13, e15, e17, -, s3, g3, v3, c3, hp0, hp1, hρ, hL⟩ | ⟨e12, e13, e15, e17, -, s3, g3, v3, c3, hp0, hp1, hρ, hL⟩
   ·have u77 : ρ 77 = .slice A1 adds.length c1 := hS.dep ⟨6, Ground.data⟩ (by simp) rfl _ _ rfl rfl
    have u78 : ρ 78 = .int .i64 i := hS.dep ⟨7, Ground.data⟩ (by simp) rfl _ _ rfl rfl
    clear hS hρ
    obtain ⟨base, rfl⟩ := Has.base (ρ := ρ) (l := [(77, .slice A1 adds.length c1), (78, .int .i64 i)]) ⟨u77, u78, trivial⟩
    clear u77 u78
    refine RL.perm rfl hL.symm ?_
    clear hL
    refine RL.indexAddr rfl sl23 rfl rfl (hA1 (by omega)) rfl (by omega) ?_
    refine RL.nil ?_
    exact ⟨rfl, ⟨_, rfl, rfl⟩, .inl ⟨e12, e13, e15, e17, trivial, trivial, List.Perm.refl _⟩⟩
   ·exact hS.hi 12 rfl (by kernel_rfl) e12
   ·exact hS.hi 12 rfl (by kernel_rfl) e12
   ·exact hS.hi 12 rfl (by kernel_rfl) e12
   exact hS.hi 12 rfl (by kernel_rfl) e12
  ·intro ρ L D hS
   rcases hS.sp with ⟨e12, e13, e15, e17, -, hρ, hL⟩ | ⟨e12, e13, e15, e17, -, s3, g3, v3, c3, hp0, hp1, hρ, hL⟩ | ⟨e12, e13, e15, e17, -, s3, g3, v3, c3, hp0, hp1, hρ, hL⟩ | ⟨e12, e13, e15, e17, -, s3, g3, v3, c3, hp0, hp1, hρ, hL⟩ | ⟨e12, e13, e15, e17, -, s3, g3, v3, c3, hp0, hp1, hρ, hL⟩
   ·have u79 : ρ 79 = .pointer (some ⟨ba, oa + i * 1, none⟩) := hS.dep ⟨8, Ground.data⟩ (by simp) rfl _ _ rfl rfl
    clear hS hρ
    obtain ⟨base, rfl⟩ := Has.base (ρ := ρ) (l := [(79, .pointer (some ⟨ba, oa + i * 1, none⟩))]) ⟨u79, trivial⟩
    clear u79
    refine RL.perm rfl hL.symm ?_
    clear hL
    refine RL.loadI rfl sc46 rfl (by rw [Nat.mul_one]; exact hA2 i _ (i8s_get hna)) (by simp) ?_
    refine RL.nil ?_
    exact ⟨rfl, ⟨_, rfl, rfl⟩, .inl ⟨e12, e13, e15, e17, trivial, trivial, List.Perm.refl _⟩⟩
   ·exact hS.hi 12 rfl (by kernel_rfl) e12
   ·exact hS.hi 12 rfl (by kernel_rfl) e12
   ·exact hS.hi 12 rfl (by kernel_rfl) e12
   exact hS.hi 12 rfl (by kernel_rfl) e12
  ·intro ρ L D hS
   rcases hS.sp with ⟨e12, e13, e15, e17, -, hρ, hL⟩ | ⟨e12, e13, e15, e17, -, s3, g3, v3, c3, hp0, hp1, hρ, hL⟩ | ⟨e12, e13, e15, e17, -, s3, g3, v3, c3, hp0, hp1, hρ, hL⟩ | ⟨e12, e13, e15, e17, -, s3, g3, v3, c3, hp0, hp1, hρ, hL⟩ | ⟨e12, e13, e15, e17, -, s3, g3, v3, c3, hp0, hp1, hρ, hL⟩
   ·have u80 : ρ 80 = .int .i8 n := hS.dep ⟨9, Ground.data⟩ (by simp) rfl _ _ rfl rfl
    clear hS hρ
    obtain ⟨base, rfl⟩ := Has.base (ρ := ρ) (l := [(80, .int .i8 n)]) ⟨u80, trivial⟩
    clear u80
    refine RL.perm rfl hL.symm ?_
    clear hL
    refine RL.conv rfl Tryz.underlying46 Tryz.underlying2 rfl ?_
    rw [i8wrap hnb]
    refine RL.nil ?_
    exact ⟨rfl, ⟨_, rfl, rfl⟩, .inl ⟨e12, e13, e15, e17, trivial, trivial, List.Perm.refl _⟩⟩
   ·exact hS.hi 12 rfl (by kernel_rfl) e12
   ·exact hS.hi 12 rfl (by kernel_rfl) e12
   ·exact hS.hi 12 rfl (by kernel_rfl) e12
   exact hS.hi 12 rfl (by kernel_rfl) e12
  ·intro ρ L D hS
   rcases hS.sp with ⟨e12, e13, e15, e17, -, hρ, hL⟩ | ⟨e12, e13, e15, e17, -, s3, g3, v3, c3, hp0, hp1, hρ, hL⟩ | ⟨e12, e13, e15, e17, -, s3, g3, v3, c3, hp0, hp1, hρ, hL⟩ | ⟨e12, e13, e15, e17, -, s3, g3, v3, c3, hp0, hp1, hρ, hL⟩ | ⟨e12, e13, e15, e17, -, s3, g3, v3, c3, hp0, hp1, hρ, hL⟩
   ·have u72 : ρ 72 = .int .i64 k := hS.dep ⟨1, Ground.data⟩ (by simp) rfl _ _ rfl rfl
    have u76 : ρ 76 = .int .u64 (refOf k : Nat) := hS.dep ⟨5, Ground.data⟩ (by simp) rfl _ _ rfl rfl
    have u81 : ρ 81 = .int .i64 n := hS.dep ⟨10, Ground.data⟩ (by simp) rfl _ _ rfl rfl
    clear hS hρ
    obtain ⟨base, rfl⟩ := Has.base (ρ := ρ) (l := [(72, .int .i64 k), (76, .int .u64 (refOf k : Nat)), (81, .int .i64 n)]) ⟨u72, u76, u81, trivial⟩
    clear u72 u76 u81
    refine RL.perm rfl hL.symm ?_
    clear hL
    refine RL.bldC (vs := [(0, .int .i64 5), (1, .int .i64 (k : Int)), (2, .int .u64 (refOf k : Nat)), (6, .int .i64 n)]) (cells := actC 5 k (refOf k : Nat) n) rfl rfl (fun w => bld5 k (refOf k : Nat) n w) ?_
    refine RL.nil ?_
    exact ⟨rfl, ⟨_, rfl, rfl⟩, .inl ⟨e12, e13, e15, e17, trivial, trivial, List.Perm.refl _⟩⟩
   ·exact hS.hi 12 rfl (by kernel_rfl) e12
   ·exact hS.hi 12 rfl (by kernel_rfl) e12
   ·exact hS.hi 12 rfl (by kernel_rfl) e12
   exact hS.hi 12 rfl (by kernel_rfl) e12
  ·intro ρ L D hS
   rcases hS.sp with ⟨e12, e13, e15, e17, -, hρ, hL⟩ | ⟨e12, e13, e15, e17, -, s3, g3, v3, c3, hp0, hp1, hρ, hL⟩ | ⟨e12, e13, e15, e17, -, s3, g3, v3, c3, hp0, hp1, hρ, hL⟩ | ⟨e12, e13, e15, e17, -, s3, g3, v3, c3, hp0, hp1, hρ, hL⟩ | ⟨e12, e13, e15, e17, -, s3, g3, v3, c3, hp0, hp1, hρ, hL⟩
   ·have u71 : ρ 71 = .pointer (some ⟨gb, 0, none⟩) := hS.dep ⟨0, Ground.data⟩ (by simp) rfl _ _ rfl rfl
    have u82 : ρ 82 = .agg (actC 5 k (refOf k : Nat) n).toArray := hS.dep ⟨11, Ground.data⟩ (by simp) rfl _ _ rfl rfl
    clear hS hρ
    obtain ⟨base, rfl⟩ := Has.base (ρ := ρ) (l := [(71, .pointer (some ⟨gb, 0, none⟩)), (82, .agg (actC 5 k (refOf k : Nat) n).toArray)]) ⟨u71, u82, trivial⟩
    clear u71 u82
    refine RL.perm rfl hL.symm ?_
    clear hL
    refine RL.fn (Lp := blocks s2) (Lr := [(bh, cel 28 (hnds (h + 1) ++ jh))]) rfl rfl rfl en8 (List.Perm.refl _) (fun w1 hw1 => c_call ha2 (fun p hp => hw1.own p (List.mem_append_left _ hp)) (hw1.nodup.sublist ((List.sublist_append_left _ _).map _)) (a := k) (by omega) (by omega) hnb) rfl ?_
    rintro _ Lz ⟨s3, g3, v3, c3, rfl, ⟨Jk, hL⟩, ha3, hc3⟩
    refine RL.perm (L' := (blocks s3 ++ [(bh, cel 28 (hnds (h + 1) ++ jh))]) ++ Jk) rfl (pmk hL) ?_
    refine RL.drop rfl (List.sublist_append_left _ _) ?_
    refine RL.nil ?_
    exact ⟨rfl, ⟨_, rfl, trivial⟩, .inr (.inl ⟨rfl, e13, e15, e17, trivial, s3, g3, v3, c3, ha3, hc3, ⟨rfl, trivial⟩, (pmm fun _ _ z => by simp only [pm1, pm2, pm3, pm4, pm5, pm6, List.cons_append, List.nil_append] <;> omega)⟩)⟩
   ·exact hS.me e12
   ·exact hS.hi 13 rfl (by kernel_rfl) e13
   ·exact hS.hi 13 rfl (by kernel_rfl) e13
   exact hS.hi 13 rfl (by kernel_rfl) e13
  ·intro ρ L D hS
   rcases hS.sp with ⟨e12, e13, e15, e17, -, hρ, hL⟩ | ⟨e12, e13, e15, e17, -, s3, g3, v3, c3, hp0, hp1, hρ, hL⟩ | ⟨e12, e13, e15, e17, -, s3, g3, v3, c3, hp0, hp1, hρ, hL⟩ | ⟨e12, e13, e15, e17, -, s3, g3, v3, c3, hp0, hp1, hρ, hL⟩ | ⟨e12, e13, e15, e17, -, s3, g3, v3, c3, hp0, hp1, hρ, hL⟩
   ·exact hS.lo 12 (by kernel_rfl) e12
   ·have u83 : ρ 83 = .tuple #[v3, .int .i64 (c3 : Int)] := hρ.1
    clear hS hρ
    obtain ⟨base, rfl⟩ := Has.base (ρ := ρ) (l := [(83, .tuple #[v3, .int .i64 (c3 : Int)])]) ⟨u83, trivial⟩
    clear u83
    refine RL.perm rfl hL.symm ?_
    clear hL
    refine RL.move rfl ?_
    refine RL.nil ?_
    exact ⟨rfl, ⟨_, rfl, trivial⟩, .inr (.inr (.inl ⟨e12, rfl, e15, e17, trivial, s3, g3, v3, c3, hp0, hp1, ⟨rfl, rfl, trivial⟩, (pmm fun _ _ z => by simp only [pm1, pm2, pm3, pm4, pm5, pm6, List.cons_append, List.nil_append] <;> omega)⟩))⟩
   ·exact hS.me e13
   ·exact hS.hi 15 rfl (by kernel_rfl) e15
   exact hS.hi 15 rfl (by kernel_rfl) e15
  ·intro ρ L D hS
   rcases hS.sp with ⟨e12, e13, e15, e17, -, hρ, hL⟩ | ⟨e12, e13, e15, e17, -, s3, g3, v3, c3, hp0, hp1, hρ, hL⟩ | ⟨e12, e13, e15, e17, -, s3, g3, v3, c3, hp0, hp1, hρ, hL⟩ | ⟨e12, e13, e15, e17, -, s3, g3, v3, c3, hp0, hp1, hρ, hL⟩ | ⟨e12, e13, e15, e17, -, s3, g3, v3, c3, hp0, hp1, hρ, hL⟩
   ·exact hS.lo 12 (by kernel_rfl) e12
   ·exact hS.lo 13 (by kernel_rfl) e13
   ·have u70 : ρ 70 = .tuple #[v3, .int .i64 (c3 : Int)] := hρ.1
    have u83 : ρ 83 = .tuple #[v3, .int .i64 (c3 : Int)] := hρ.2.1
    clear hS hρ
    obtain ⟨base, rfl⟩ := Has.base (ρ := ρ) (l := [(70, .tuple #[v3, .int .i64 (c3 : Int)]), (83, .tuple #[v3, .int .i64 (c3 : Int)])]) ⟨u70, u83, trivial⟩
    clear u70 u83
    refine RL.perm rfl hL.symm ?_
    clear hL
    refine RL.extract rfl rfl rfl (Eq.mpr (withV_eq _ _) ?_)
    refine RL.nil ?_
    exact ⟨rfl, ⟨_, rfl, trivial⟩, .inr (.inr (.inl ⟨e12, e13, e15, e17, trivial, s3, g3, v3, c3, hp0, hp1, ⟨rfl, rfl, trivial⟩, List.Perm.refl _⟩))⟩
   ·have u70 : ρ 70 = .tuple #[v3, .int .i64 (c3 : Int)] := hρ.1
    have u83 : ρ 83 = .tuple #[v3, .int .i64 (c3 : Int)] := hρ.2.1
    have u85 : ρ 85 = .int .i64 (c3 : Int) := hρ.2.2.1
    clear hS hρ
    obtain ⟨base, rfl⟩ := Has.base (ρ := ρ) (l := [(70, .tuple #[v3, .int .i64 (c3 : Int)]), (83, .tuple #[v3, .int .i64 (c3 : Int)]), (85, .int .i64 (c3 : Int))]) ⟨u70, u83, u85, trivial⟩
    clear u70 u83 u85
    refine RL.perm rfl hL.symm ?_
    clear hL
    refine RL.extract rfl rfl rfl (Eq.mpr (withV_eq _ _) ?_)
    refine RL.nil ?_
    exact ⟨rfl, ⟨_, rfl, trivial⟩, .inr (.inr (.inr (.inl ⟨e12, e13, e15, e17, trivial, s3, g3, v3, c3, hp0, hp1, ⟨rfl, rfl, rfl, trivial⟩, List.Perm.refl _⟩)))⟩
   exact hS.hi 17 rfl (by kernel_rfl) e17
  ·intro ρ L D hS
   rcases hS.sp with ⟨e12, e13, e15, e17, -, hρ, hL⟩ | ⟨e12, e13, e15, e17, -, s3, g3, v3, c3, hp0, hp1, hρ, hL⟩ | ⟨e12, e13, e15, e17, -, s3, g3, v3, c3, hp0, hp1, hρ, hL⟩ | ⟨e12, e13, e15, e17, -, s3, g3, v3, c3, hp0, hp1, hρ, hL⟩ | ⟨e12, e13, e15, e17, -, s3, g3, v3, c3, hp0, hp1, hρ, hL⟩
   ·exact hS.lo 12 (by kernel_rfl) e12
   ·exact hS.lo 13 (by kernel_rfl) e13
   ·have u70 : ρ 70 = .tuple #[v3, .int .i64 (c3 : Int)] := hρ.1
    have u83 : ρ 83 = .tuple #[v3, .int .i64 (c3 : Int)] := hρ.2.1
    clear hS hρ
    obtain ⟨base, rfl⟩ := Has.base (ρ := ρ) (l := [(70, .tuple #[v3, .int .i64 (c3 : Int)]), (83, .tuple #[v3, .int .i64 (c3 : Int)])]) ⟨u70, u83, trivial⟩
    clear u70 u83
    refine RL.perm rfl hL.symm ?_
    clear hL
    refine RL.extract rfl rfl rfl ?_
    refine RL.nil ?_
    exact ⟨rfl, ⟨_, rfl, trivial⟩, .inr (.inr (.inr (.inl ⟨e12, e13, rfl, e17, trivial, s3, g3, v3, c3, hp0, hp1, ⟨rfl, rfl, rfl, trivial⟩, (pmm fun _ _ z => by simp only [pm1, pm2, pm3, pm4, pm5, pm6, List.cons_append, List.nil_append] <;> omega)⟩)))⟩
   ·exact hS.me e15
   exact hS.hi 17 rfl (by kernel_rfl) e17
  ·intro ρ L D hS
   rcases hS.sp with ⟨e12, e13, e15, e17, -, hρ, hL⟩ | ⟨e12, e13, e15, e17, -, s3, g3, v3, c3, hp0, hp1, hρ, hL⟩ | ⟨e12, e13, e15, e17, -, s3, g3, v3, c3, hp0, hp1, hρ, hL⟩ | ⟨e12, e13, e15, e17, -, s3, g3, v3, c3, hp0, hp1, hρ, hL⟩ | ⟨e12, e13, e15, e17, -, s3, g3, v3, c3, hp0, hp1, hρ, hL⟩
   ·exact hS.lo 12 (by kernel_rfl) e12
   ·exact hS.lo 13 (by kernel_rfl) e13
   ·have u70 : ρ 70 = .tuple #[v3, .int .i64 (c3 : Int)] := hρ.1
    have u83 : ρ 83 = .tuple #[v3, .int .i64 (c3 : Int)] := hρ.2.1
    clear hS hρ
    obtain ⟨base, rfl⟩ := Has.base (ρ := ρ) (l := [(70, .tuple #[v3, .int .i64 (c3 : Int)]), (83, .tuple #[v3, .int .i64 (c3 : Int)])]) ⟨u70, u83, trivial⟩
    clear u70 u83
    refine RL.perm rfl hL.symm ?_
    clear hL
    refine RL.assign rfl (Eq.mpr (withV_eq _ _) ?_)
    refine RL.nil ?_
    exact ⟨rfl, ⟨_, rfl, trivial⟩, .inr (.inr (.inl ⟨e12, e13, e15, e17, trivial, s3, g3, v3, c3, hp0, hp1, ⟨rfl, rfl, trivial⟩, List.Perm.refl _⟩))⟩
   ·have u70 : ρ 70 = .tuple #[v3, .int .i64 (c3 : Int)] := hρ.1
    have u83 : ρ 83 = .tuple #[v3, .int .i64 (c3 : Int)] := hρ.2.1
    have u85 : ρ 85 = .int .i64 (c3 : Int) := hρ.2.2.1
    clear hS hρ
    obtain ⟨base, rfl⟩ := Has.base (ρ := ρ) (l := [(70, .tuple #[v3, .int .i64 (c3 : Int)]), (83, .tuple #[v3, .int .i64 (c3 : Int)]), (85, .int .i64 (c3 : Int))]) ⟨u70, u83, u85, trivial⟩
    clear u70 u83 u85
    refine RL.perm rfl hL.symm ?_
    clear hL
    refine RL.assign rfl (Eq.mpr (withV_eq _ _) ?_)
    refine RL.nil ?_
    exact ⟨rfl, ⟨_, rfl, trivial⟩, .inr (.inr (.inr (.inl ⟨e12, e13, e15, e17, trivial, s3, g3, v3, c3, hp0, hp1, ⟨rfl, rfl, rfl, trivial⟩, List.Perm.refl _⟩)))⟩
   exact hS.hi 17 rfl (by kernel_rfl) e17
  ·intro ρ L D hS
   rcases hS.sp with ⟨e12, e13, e15, e17, -, hρ, hL⟩ | ⟨e12, e13, e15, e17, -, s3, g3, v3, c3, hp0, hp1, hρ, hL⟩ | ⟨e12, e13, e15, e17, -, s3, g3, v3, c3, hp0, hp1, hρ, hL⟩ | ⟨e12, e13, e15, e17, -, s3, g3, v3, c3, hp0, hp1, hρ, hL⟩ | ⟨e12, e13, e15, e17, -, s3, g3, v3, c3, hp0, hp1, hρ, hL⟩
   ·exact hS.lo 12 (by kernel_rfl) e12
   ·exact hS.lo 13 (by kernel_rfl) e13
   ·exact hS.lo 15 (by kernel_rfl) e15
   ·have u70 : ρ 70 = .tuple #[v3, .int .i64 (c3 : Int)] := hρ.1
    have u83 : ρ 83 = .tuple #[v3, .int .i64 (c3 : Int)] := hρ.2.1
    have u85 : ρ 85 = .int .i64 (c3 : Int) := hρ.2.2.1
    clear hS hρ
    obtain ⟨base, rfl⟩ := Has.base (ρ := ρ) (l := [(70, .tuple #[v3, .int .i64 (c3 : Int)]), (83, .tuple #[v3, .int .i64 (c3 : Int)]), (85, .int .i64 (c3 : Int))]) ⟨u70, u83, u85, trivial⟩
    clear u70 u83 u85
    refine RL.perm rfl hL.symm ?_
    clear hL
    refine RL.assign rfl ?_
    refine RL.nil ?_
    exact ⟨rfl, ⟨_, rfl, trivial⟩, .inr (.inr (.inr (.inr (⟨e12, e13, e15, rfl, trivial, s3, g3, v3, c3, hp0, hp1, ⟨rfl, rfl, rfl, rfl, trivial⟩, (pmm fun _ _ z => by simp only [pm1, pm2, pm3, pm4, pm5, pm6, List.cons_append, List.nil_append] <;> omega)⟩))))⟩
   exact hS.me e17
  intro ρ L D hD hT hfix hsp
  rcases hsp with ⟨e12, e13, e15, e17, -, hρ, hL⟩ | ⟨e12, e13, e15, e17, -, s3, g3, v3, c3, hp0, hp1, hρ, hL⟩ | ⟨e12, e13, e15, e17, -, s3, g3, v3, c3, hp0, hp1, hρ, hL⟩ | ⟨e12, e13, e15, e17, -, s3, g3, v3, c3, hp0, hp1, hρ, hL⟩ | ⟨e12, e13, e15, e17, -, s3, g3, v3, c3, hp0, hp1, hρ, hL⟩
  ·exact done_no hD 12 rfl e12
  ·exact done_no hD 13 rfl e13
  ·exact done_no hD 15 rfl e15
  ·exact done_no hD 17 rfl e17
  have u1 : ρ 1 = .slice A1 adds.length c1 := hfix 1 (by decide)
  have u2 : ρ 2 = .slice A2 picks.length c2 := hfix 2 (by decide)
  have u7 : ρ 7 = .pointer (some ⟨gb, 0, none⟩) := hfix 7 (by decide)
  have u10 : ρ 10 = .slice (some ⟨bh, 0, none⟩) (h + 1) ch := hfix 10 (by decide)
  have u12 : ρ 12 = .int .i64 g2.sum := hfix 12 (by decide)
  have u13 : ρ 13 = .int .i64 i := hfix 13 (by decide)
  have u16 : ρ 16 = .int .i64 (c3 : Int) := hρ.1
  have u70 : ρ 70 = .tuple #[v3, .int .i64 (c3 : Int)] := hρ.2.1
  have u83 : ρ 83 = .tuple #[v3, .int .i64 (c3 : Int)] := hρ.2.2.1
  have u85 : ρ 85 = .int .i64 (c3 : Int) := hρ.2.2.2.1
  clear hT hfix hD hρ
  obtain ⟨base, rfl⟩ := Has.base (ρ := ρ) (l := [(1, .slice A1 adds.length c1), (2, .slice A2 picks.length c2), (7, .pointer (some ⟨gb, 0, none⟩)), (10, .slice (some ⟨bh, 0, none⟩) (h + 1) ch), (12, .int .i64 g2.sum), (13, .int .i64 i), (16, .int .i64 (c3 : Int)), (70, .tuple #[v3, .int .i64 (c3 : Int)]), (83, .tuple #[v3, .int .i64 (c3 : Int)]), (85, .int .i64 (c3 : Int))]) ⟨u1, u2, u7, u10, u12, u13, u16, u70, u83, u85, trivial⟩
  clear u1 u2 u7 u10 u12 u13 u16 u70 u83 u85
  refine ⟨_, hL.symm, ((blocks s3) ++ ([(bh, cel 28 (hnds (h + 1) ++ jh))])), List.Sublist.append (List.Sublist.refl _) (List.Sublist.refl _), ?_⟩
  refine X.seq ?_
  refine X.region rfl ?_
  refine RL.move rfl ?_
  refine RL.cmp_d rfl rfl rfl rfl ?_
  refine RL.nil ?_
  refine X.cut (fun ρ ds L => ds = [] ∧ Has ρ [(1, .slice A1 adds.length c1), (2, .slice A2 picks.length c2), (7, .pointer (some ⟨gb, 0, none⟩)), (10, .slice (some ⟨bh, 0, none⟩) (h + 1) ch), (12, .int .i64 g3.sum), (13, .int .i64 i)] ∧ L = blocks s3 ++ [(bh, cel 28 (hnds (h + 1) ++ jh))]) ?_ ?_
  ·refine X.cond_s rfl (fun h0 => ?_) (fun h0 => ?_)
   ·have hs3 : g3.sum = g2.sum + n := by
      rcases hp1 with ⟨_, h1, _⟩ | ⟨h1, _⟩
      · exact h1
      · rw [h1] at h0; exact absurd h0 (by decide)
    refine X.region rfl ?_
    refine RL.move rfl ?_
    refine RL.move rfl ?_
    refine RL.move rfl ?_
    refine RL.indexAddr rfl sl23 rfl rfl (hA1 (by omega)) rfl (by omega) ?_
    refine RL.loadI rfl sc46 rfl (by rw [Nat.mul_one]; exact hA2 i _ (i8s_get hna)) (by simp) ?_
    refine RL.conv rfl Tryz.underlying46 Tryz.underlying2 rfl ?_
    rw [i8wrap hnb]
    refine RL.add rfl rfl rfl (by omega) ?_
    refine RL.assign rfl ?_
    refine RL.nil ?_
    exact X.hyp ⟨rfl, ⟨rfl, rfl, rfl, rfl, congrArg (Value.int .i64) hs3.symm, rfl, trivial⟩, rfl⟩
   have hs3 : g3 = g2 := by
     rcases hp1 with ⟨h1, _, _⟩ | ⟨_, h1⟩
     · rw [h1] at h0; exact absurd rfl h0
     · exact h1
   refine X.skip ?_
   exact X.hyp ⟨rfl, ⟨rfl, rfl, rfl, rfl, by rw [hs3]; rfl, rfl, trivial⟩, rfl⟩
  rintro _ _ _ ⟨rfl, hρ, rfl⟩
  obtain ⟨base, rfl⟩ := hρ.base
  clear hρ
  have ha3 := hp0
  have hq3 : g3.nc ≤ i + 1 ∧ -(128 * ((i + 1 : Nat) : Int)) ≤ g3.sum ∧ g3.sum ≤ 128 * ((i + 1 : Nat) : Int) := by
    rcases hp1 with ⟨_, h1, h2⟩ | ⟨_, h1⟩
    · omega
    · rw [h1]; omega
  refine X.seq ?_
  refine X.region rfl ?_
  refine RL.move rfl ?_
  refine RL.move rfl ?_
  refine RL.len rfl sl24 rfl ?_
  refine RL.cmp_s rfl rfl rfl rfl (fun hpl => ?_) (fun hpl => ?_)
  ·replace hpl : (_ : Int) < _ := hpl
   obtain ⟨q, hqp⟩ : ∃ q, picks[i]? = some q := ⟨_, List.getElem?_eq_getElem (by omega)⟩
   obtain ⟨p, hpp, hph⟩ := pick_nat (x := q) (n := h + 1) (by omega)
   refine RL.nil ?_
   refine X.cond_t rfl ?_
   refine X.seq ?_
   refine X.region rfl ?_
   refine RL.move rfl ?_
   refine RL.move rfl ?_
   refine RL.move rfl ?_
   refine RL.indexAddr rfl sl24 rfl rfl (hP1 (by omega)) rfl (by omega) ?_
   refine RL.loadI rfl sc3 rfl (by rw [Nat.mul_one]; exact hP2 i _ (ints_get hqp)) (by simp) ?_
   refine RL.bldC (vs := [(0, .int .i64 22), (6, .int .i64 q)]) (cells := actC 22 0 0 q) rfl rfl (fun w => bld22n q w) ?_
   refine RL.fn (Lp := blocks s3) (Lr := [(bh, cel 28 (hnds (h + 1) ++ jh))]) rfl rfl rfl en8 (List.Perm.refl _) (fun w1 hw1 => c_deliver ha3 (fun p hp => hw1.own p (List.mem_append_left _ hp)) (hw1.nodup.sublist ((List.sublist_append_left _ _).map _)) q) rfl ?_
   rintro _ Lz ⟨s4, g4, v4, c4, rfl, ⟨Jk, hL⟩, ha4, hs4, hn4, -⟩
   refine RL.perm (L' := (blocks s4 ++ [(bh, cel 28 (hnds (h + 1) ++ jh))]) ++ Jk) rfl (pmk hL) ?_
   refine RL.drop rfl (List.sublist_append_left _ _) ?_
   refine RL.nil ?_
   refine X.set [.val (.pointer (some ⟨gb, 0, none⟩)), .val (.slice A2 picks.length c2), .val (.int .i64 i), .val (.pointer (some ⟨bp, op + i * 1, none⟩)), .val (.int .i64 q), .val (.pointer (some ⟨gb, 0, none⟩)), .val (.pointer (some ⟨gb, 0, none⟩)), .val (.pointer (some ⟨gb, 0 + 1, none⟩)), .val (.int .i64 ((h + 1 : Nat) : Int)), .val (.int .i64 (p : Int)), .val (.int .i64 i), .val (.agg (actC 21 p 0 i).toArray), .any] [[], [], [], [1, 2], [1, 2, 3], [], [5], [5, 6], [5, 6, 7], [1, 2, 3, 4, 5, 6, 7, 8], [], [1, 2, 3, 4, 5, 6, 7, 8, 9, 10], [0, 1, 2, 3, 4, 5, 6, 7, 8, 9, 10, 11]] (fun D ρ L => (D 12 = false ∧ True ∧ Has ρ [] ∧ L.Perm ((blocks s4) ++ ([(bh, cel 28 (hnds (h + 1) ++ jh))]))) ∨ (D 12 = true ∧ True ∧ ∃ s5 : Sta, ∃ g5 : Gh, (At s5 g5 gb h) ∧ (g5.sum = g4.sum) ∧ (g5.nc = g4.nc) ∧ Has ρ [] ∧ L.Perm ((blocks s5) ++ ([(bh, cel 28 (hnds (h + 1) ++ jh))])))) rfl (by kernel_rfl) (by kernel_rfl) (by kernel_rfl) (by kernel_rfl) (fun D hD => .inl ⟨hD 12, trivial, trivial, (pmm fun _ _ z => by simp only [pm1, pm2, pm3, pm4, pm5, pm6, List.cons_append, List.nil_append] <;> omega)⟩) ⟨?_, ?_, ?_, ?_, ?_, ?_, ?_, ?_, ?_, ?_, ?_, ?_, ?_, trivial⟩ ?_
   ·intro ρ L D hS
    rcases hS.sp with ⟨e12, -, hρ, hL⟩ | ⟨e12, -, s5, g5, hp0, hp1, hp2, hρ, hL⟩
    ·have u7 : ρ 7 = .pointer (some ⟨gb, 0, none⟩) := hS.fix 7 (by decide)
     clear hS hρ
     obtain ⟨base, rfl⟩ := Has.base (ρ := ρ) (l := [(7, .pointer (some ⟨gb, 0, none⟩))]) ⟨u7, trivial⟩
     clear u7
     refine RL.perm rfl hL.symm ?_
     clear hL
     refine RL.move rfl ?_
     refine RL.nil ?_
     exact ⟨rfl, ⟨_, rfl, rfl⟩, .inl ⟨e12, trivial, trivial, List.Perm.refl _⟩⟩
    exact hS.hi 12 rfl (by kernel_rfl) e12
   ·intro ρ L D hS
    rcases hS.sp with ⟨e12, -, hρ, hL⟩ | ⟨e12, -, s5, g5, hp0, hp1, hp2, hρ, hL⟩
    ·have u2 : ρ 2 = .slice A2 picks.length c2 := hS.fix 2 (by decide)
     clear hS hρ
     obtain ⟨base, rfl⟩ := Has.base (ρ := ρ) (l := [(2, .slice A2 picks.length c2)]) ⟨u2, trivial⟩
     clear u2
     refine RL.perm rfl hL.symm ?_
     clear hL
     refine RL.move rfl ?_
     refine RL.nil ?_
     exact ⟨rfl, ⟨_, rfl, rfl⟩, .inl ⟨e12, trivial, trivial, List.Perm.refl _⟩⟩
    exact hS.hi 12 rfl (by kernel_rfl) e12
   ·intro ρ L D hS
    rcases hS.sp with ⟨e12, -, hρ, hL⟩ | ⟨e12, -, s5, g5, hp0, hp1, hp2, hρ, hL⟩
    ·have u13 : ρ 13 = .int .i64 i := hS.fix 13 (by decide)
     clear hS hρ
     obtain ⟨base, rfl⟩ := Has.base (ρ := ρ) (l := [(13, .int .i64 i)]) ⟨u13, trivial⟩
     clear u13
     refine RL.perm rfl hL.symm ?_
     clear hL
     refine RL.move rfl ?_
     refine RL.nil ?_
     exact ⟨rfl, ⟨_, rfl, rfl⟩, .inl ⟨e12, trivial, trivial, List.Perm.refl _⟩⟩
    exact hS.hi 12 rfl (by kernel_rfl) e12
   ·intro ρ L D hS
    rcases hS.sp with ⟨e12, -, hρ, hL⟩ | ⟨e12, -, s5, g5, hp0, hp1, hp2, hρ, hL⟩
    ·have u107 : ρ 107 = .slice A2 picks.length c2 := hS.dep ⟨1, Ground.data⟩ (by simp) rfl _ _ rfl rfl
     have u108 : ρ 108 = .int .i64 i := hS.dep ⟨2, Ground.data⟩ (by simp) rfl _ _ rfl rfl
     clear hS hρ
     obtain ⟨base, rfl⟩ := Has.base (ρ := ρ) (l := [(107, .slice A2 picks.length c2), (108, .int .i64 i)]) ⟨u107, u108, trivial⟩
     clear u107 u108
     refine RL.perm rfl hL.symm ?_
     clear hL
     refine RL.indexAddr rfl sl24 rfl rfl (hP1 (by omega)) rfl (by omega) ?_
     refine RL.nil ?_
     exact ⟨rfl, ⟨_, rfl, rfl⟩, .inl ⟨e12, trivial, trivial, List.Perm.refl _⟩⟩
    exact hS.hi 12 rfl (by kernel_rfl) e12
   ·intro ρ L D hS
    rcases hS.sp with ⟨e12, -, hρ, hL⟩ | ⟨e12, -, s5, g5, hp0, hp1, hp2, hρ, hL⟩
    ·have u109 : ρ 109 = .pointer (some ⟨bp, op + i * 1, none⟩) := hS.dep ⟨3, Ground.data⟩ (by simp) rfl _ _ rfl rfl
     clear hS hρ
     obtain ⟨base, rfl⟩ := Has.base (ρ := ρ) (l := [(109, .pointer (some ⟨bp, op + i * 1, none⟩))]) ⟨u109, trivial⟩
     clear u109
     refine RL.perm rfl hL.symm ?_
     clear hL
     refine RL.loadI rfl sc3 rfl (by rw [Nat.mul_one]; exact hP2 i _ (ints_get hqp)) (by simp) ?_
     refine RL.nil ?_
     exact ⟨rfl, ⟨_, rfl, rfl⟩, .inl ⟨e12, trivial, trivial, List.Perm.refl _⟩⟩
    exact hS.hi 12 rfl (by kernel_rfl) e12
   ·intro ρ L D hS
    rcases hS.sp with ⟨e12, -, hρ, hL⟩ | ⟨e12, -, s5, g5, hp0, hp1, hp2, hρ, hL⟩
    ·have u7 : ρ 7 = .pointer (some ⟨gb, 0, none⟩) := hS.fix 7 (by decide)
     clear hS hρ
     obtain ⟨base, rfl⟩ := Has.base (ρ := ρ) (l := [(7, .pointer (some ⟨gb, 0, none⟩))]) ⟨u7, trivial⟩
     clear u7
     refine RL.perm rfl hL.symm ?_
     clear hL
     refine RL.move rfl ?_
     refine RL.nil ?_
     exact ⟨rfl, ⟨_, rfl, rfl⟩, .inl ⟨e12, trivial, trivial, List.Perm.refl _⟩⟩
    exact hS.hi 12 rfl (by kernel_rfl) e12
   ·intro ρ L D hS
    rcases hS.sp with ⟨e12, -, hρ, hL⟩ | ⟨e12, -, s5, g5, hp0, hp1, hp2, hρ, hL⟩
    ·have u111 : ρ 111 = .pointer (some ⟨gb, 0, none⟩) := hS.dep ⟨5, Ground.data⟩ (by simp) rfl _ _ rfl rfl
     clear hS hρ
     obtain ⟨base, rfl⟩ := Has.base (ρ := ρ) (l := [(111, .pointer (some ⟨gb, 0, none⟩))]) ⟨u111, trivial⟩
     clear u111
     refine RL.perm rfl hL.symm ?_
     clear hL
     refine RL.nilCheck rfl rfl ?_
     refine RL.nil ?_
     exact ⟨rfl, ⟨_, rfl, rfl⟩, .inl ⟨e12, trivial, trivial, List.Perm.refl _⟩⟩
    exact hS.hi 12 rfl (by kernel_rfl) e12
   ·intro ρ L D hS
    rcases hS.sp with ⟨e12, -, hρ, hL⟩ | ⟨e12, -, s5, g5, hp0, hp1, hp2, hρ, hL⟩
    ·have u112 : ρ 112 = .pointer (some ⟨gb, 0, none⟩) := hS.dep ⟨6, Ground.data⟩ (by simp) rfl _ _ rfl rfl
     clear hS hρ
     obtain ⟨base, rfl⟩ := Has.base (ρ := ρ) (l := [(112, .pointer (some ⟨gb, 0, none⟩))]) ⟨u112, trivial⟩
     clear u112
     refine RL.perm rfl hL.symm ?_
     clear hL
     refine RL.fieldAddr rfl fd42_1 rfl ?_
     refine RL.nil ?_
     exact ⟨rfl, ⟨_, rfl, rfl⟩, .inl ⟨e12, trivial, trivial, List.Perm.refl _⟩⟩
    exact hS.hi 12 rfl (by kernel_rfl) e12
   ·intro ρ L D hS
    rcases hS.sp with ⟨e12, -, hρ, hL⟩ | ⟨e12, -, s5, g5, hp0, hp1, hp2, hρ, hL⟩
    ·have u113 : ρ 113 = .pointer (some ⟨gb, 0 + 1, none⟩) := hS.dep ⟨7, Ground.data⟩ (by simp) rfl _ _ rfl rfl
     clear hS hρ
     obtain ⟨base, rfl⟩ := Has.base (ρ := ρ) (l := [(113, .pointer (some ⟨gb, 0 + 1, none⟩))]) ⟨u113, trivial⟩
     clear u113
     refine RL.perm rfl hL.symm ?_
     clear hL
     refine RL.loadO (hm := gL ha4 _) rfl sc3 rfl rfl ?_
     refine RL.nil ?_
     exact ⟨rfl, ⟨_, rfl, rfl⟩, .inl ⟨e12, trivial, trivial, List.Perm.refl _⟩⟩
    exact hS.hi 12 rfl (by kernel_rfl) e12
   ·intro ρ L D hS
    rcases hS.sp with ⟨e12, -, hρ, hL⟩ | ⟨e12, -, s5, g5, hp0, hp1, hp2, hρ, hL⟩
    ·have u110 : ρ 110 = .int .i64 q := hS.dep ⟨4, Ground.data⟩ (by simp) rfl _ _ rfl rfl
     have u114 : ρ 114 = .int .i64 ((h + 1 : Nat) : Int) := hS.dep ⟨8, Ground.data⟩ (by simp) rfl _ _ rfl rfl
     clear hS hρ
     obtain ⟨base, rfl⟩ := Has.base (ρ := ρ) (l := [(110, .int .i64 q), (114, .int .i64 ((h + 1 : Nat) : Int))]) ⟨u110, u114, trivial⟩
     clear u110 u114
     refine RL.perm rfl hL.symm ?_
     clear hL
     refine RL.fnQ (v := .int .i64 (p : Int)) rfl rfl en9 (fun w1 hw1 => (f_pick q ((h + 1 : Nat) : Int) w1 (by omega) (by omega)).mono fun v L hv => by rw [hv, hpp]) rfl ?_
     refine RL.nil ?_
     exact ⟨rfl, ⟨_, rfl, rfl⟩, .inl ⟨e12, trivial, trivial, List.Perm.refl _⟩⟩
    exact hS.hi 12 rfl (by kernel_rfl) e12
   ·intro ρ L D hS
    rcases hS.sp with ⟨e12, -, hρ, hL⟩ | ⟨e12, -, s5, g5, hp0, hp1, hp2, hρ, hL⟩
    ·have u13 : ρ 13 = .int .i64 i := hS.fix 13 (by decide)
     clear hS hρ
     obtain ⟨base, rfl⟩ := Has.base (ρ := ρ) (l := [(13, .int .i64 i)]) ⟨u13, trivial⟩
     clear u13
     refine RL.perm rfl hL.symm ?_
     clear hL
     refine RL.move rfl ?_
     refine RL.nil ?_
     exact ⟨rfl, ⟨_, rfl, rfl⟩, .inl ⟨e12, trivial, trivial, List.Perm.refl _⟩⟩
    exact hS.hi 12 rfl (by kernel_rfl) e12
   ·intro ρ L D hS
    rcases hS.sp with ⟨e12, -, hρ, hL⟩ | ⟨e12, -, s5, g5, hp0, hp1, hp2, hρ, hL⟩
    ·have u115 : ρ 115 = .int .i64 (p : Int) := hS.dep ⟨9, Ground.data⟩ (by simp) rfl _ _ rfl rfl
     have u116 : ρ 116 = .int .i64 i := hS.dep ⟨10, Ground.data⟩ (by simp) rfl _ _ rfl rfl
     clear hS hρ
     obtain ⟨base, rfl⟩ := Has.base (ρ := ρ) (l := [(115, .int .i64 (p : Int)), (116, .int .i64 i)]) ⟨u115, u116, trivial⟩
     clear u115 u116
     refine RL.perm rfl hL.symm ?_
     clear hL
     refine RL.bldC (vs := [(0, .int .i64 21), (1, .int .i64 (p : Int)), (6, .int .i64 (i : Int))]) (cells := actC 21 p 0 i) rfl rfl (fun w => bld21n p i w) ?_
     refine RL.nil ?_
     exact ⟨rfl, ⟨_, rfl, rfl⟩, .inl ⟨e12, trivial, trivial, List.Perm.refl _⟩⟩
    exact hS.hi 12 rfl (by kernel_rfl) e12
   ·intro ρ L D hS
    rcases hS.sp with ⟨e12, -, hρ, hL⟩ | ⟨e12, -, s5, g5, hp0, hp1, hp2, hρ, hL⟩
    ·have u106 : ρ 106 = .pointer (some ⟨gb, 0, none⟩) := hS.dep ⟨0, Ground.data⟩ (by simp) rfl _ _ rfl rfl
     have u117 : ρ 117 = .agg (actC 21 p 0 i).toArray := hS.dep ⟨11, Ground.data⟩ (by simp) rfl _ _ rfl rfl
     clear hS hρ
     obtain ⟨base, rfl⟩ := Has.base (ρ := ρ) (l := [(106, .pointer (some ⟨gb, 0, none⟩)), (117, .agg (actC 21 p 0 i).toArray)]) ⟨u106, u117, trivial⟩
     clear u106 u117
     refine RL.perm rfl hL.symm ?_
     clear hL
     refine RL.fn (Lp := blocks s4) (Lr := [(bh, cel 28 (hnds (h + 1) ++ jh))]) rfl rfl rfl en8 (List.Perm.refl _) (fun w1 hw1 => c_step ha4 (fun p hp => hw1.own p (List.mem_append_left _ hp)) (hw1.nodup.sublist ((List.sublist_append_left _ _).map _)) (a := p) (by omega) (n := (i : Int)) (by omega)) rfl ?_
     rintro _ Lz ⟨s5, g5, v5, c5, rfl, ⟨Jk, hL⟩, ha5, hs5, hn5, -⟩
     refine RL.perm (L' := (blocks s5 ++ [(bh, cel 28 (hnds (h + 1) ++ jh))]) ++ Jk) rfl (pmk hL) ?_
     refine RL.drop rfl (List.sublist_append_left _ _) ?_
     refine RL.nil ?_
     exact ⟨rfl, ⟨_, rfl, trivial⟩, .inr (⟨rfl, trivial, s5, g5, ha5, hs5, hn5, trivial, (pmm fun _ _ z => by simp only [pm1, pm2, pm3, pm4, pm5, pm6, List.cons_append, List.nil_append] <;> omega)⟩)⟩
    exact hS.me e12
   intro ρ L D hD hT hfix hsp
   rcases hsp with ⟨e12, -, hρ, hL⟩ | ⟨e12, -, s5, g5, hp0, hp1, hp2, hρ, hL⟩
   ·exact done_no hD 12 rfl e12
   have u1 : ρ 1 = .slice A1 adds.length c1 := hfix 1 (by decide)
   have u2 : ρ 2 = .slice A2 picks.length c2 := hfix 2 (by decide)
   have u7 : ρ 7 = .pointer (some ⟨gb, 0, none⟩) := hfix 7 (by decide)
   have u10 : ρ 10 = .slice (some ⟨bh, 0, none⟩) (h + 1) ch := hfix 10 (by decide)
   have u12 : ρ 12 = .int .i64 g3.sum := hfix 12 (by decide)
   have u13 : ρ 13 = .int .i64 i := hfix 13 (by decide)
   clear hT hfix hD hρ
   obtain ⟨base, rfl⟩ := Has.base (ρ := ρ) (l := [(1, .slice A1 adds.length c1), (2, .slice A2 picks.length c2), (7, .pointer (some ⟨gb, 0, none⟩)), (10, .slice (some ⟨bh, 0, none⟩) (h + 1) ch), (12, .int .i64 g3.sum), (13, .int .i64 i)]) ⟨u1, u2, u7, u10, u12, u13, trivial⟩
   clear u1 u2 u7 u10 u12 u13
   refine ⟨_, hL.symm, ((blocks s5) ++ ([(bh, cel 28 (hnds (h + 1) ++ jh))])), List.Sublist.append (List.Sublist.refl _) (List.Sublist.refl _), ?_⟩
   refine X.blk ?_
   refine X.region rfl ?_
   refine RL.move rfl ?_
   refine RL.add rfl rfl rfl (by omega) ?_
   refine RL.assign rfl ?_
   refine RL.nil ?_
   refine X.hyp ⟨rfl, i + 1, by omega, _, (List.Sublist.refl _), s5, g5, hp0, by omega, by rw [hp2, hn4]; exact hq3.1, by rw [hp1, hs4]; exact hq3.2, ⟨rfl, rfl, rfl, rfl, congrArg (Value.int .i64) (hs4.symm.trans hp1.symm), rfl, trivial⟩, rfl⟩
  replace hpl : ¬ ((_ : Int) < _) := hpl
  refine RL.nil ?_
  refine X.cond_f rfl ?_
  refine X.skip ?_
  refine X.blk ?_
  refine X.region rfl ?_
  refine RL.move rfl ?_
  refine RL.add rfl rfl rfl (by omega) ?_
  refine RL.assign rfl ?_
  refine RL.nil ?_
  refine X.hyp ⟨rfl, i + 1, by omega, _, (List.Sublist.refl _), s3, g3, ha3, by omega, hq3.1, hq3.2, ⟨rfl, rfl, rfl, rfl, rfl, rfl, trivial⟩, rfl⟩
 replace hlt : ¬ ((_ : Int) < _) := hlt
 obtain rfl : i = adds.length := by omega
 refine RL.nil ?_
 refine X.cond_f rfl ?_
 refine X.exit rfl ?_
 refine X.seq ?_
 refine X.seq ?_
 refine X.region rfl ?_
 refine RL.move rfl ?_
 refine RL.fn (Lp := blocks s2) (Lr := [(bh, cel 28 (hnds (h + 1) ++ jh))]) rfl rfl rfl en10 (List.Perm.refl _) (fun w1 hw1 => f_calm ha2 h3 (fun p hp => hw1.own p (List.mem_append_left _ hp)) (hw1.nodup.sublist ((List.sublist_append_left _ _).map _))) rfl ?_
 rintro _ Lz ⟨rfl, s6, g6, rfl, ha6, hs6, hn6, hz1, hz2, hz3⟩
 refine RL.drop rfl (List.sublist_append_left _ _) ?_
 have hok6 := ha6.good.ok
 have hl6 := good_e ha6.good
 refine RL.not rfl rfl ?_
 refine RL.nil ?_
 refine X.cond_f rfl ?_
 refine X.skip ?_
 refine X.seq ?_
 refine X.region rfl ?_
 refine RL.assign rfl ?_
 refine RL.nil ?_
 refine X.seq ?_
 refine X.region rfl ?_
 refine RL.assign rfl ?_
 refine RL.nil ?_
 refine X.seq ?_
 refine X.seq ?_
 refine X.region rfl ?_
 refine RL.assign rfl ?_
 refine RL.nil ?_
 refine X.block ?_
 refine X.loop (γ := Nat) (fun i ρ L => ∃ Lt : List Ent, ∃ At_ : Option Addr, ∃ ct : Nat, (i ≤ g6.evs.length) ∧ (Row 2 1 (.slice At_ (tdW (g6.evs.take i)).length ct) (ints (tdW (g6.evs.take i))) Lt) ∧ Has ρ [(7, .pointer (some ⟨gb, 0, none⟩)), (12, .int .i64 g2.sum), (17, .int .i64 (vlW (g6.evs.take i))), (18, .slice At_ (tdW (g6.evs.take i)).length ct), (19, .int .i64 i)] ∧ L = Lt ++ blocks s6) (fun i => g6.evs.length - i) (0) ⟨_, (by repeat (first | exact sb0 _ | exact sb1 _ | (rw [List.append_nil]; exact sb0 _) | exact sb2 _ _ | exact sb3 _ _ _ | apply sb4 | apply sb5 | apply sb6)), [], none, 0, Nat.zero_le _, Row.nil, ⟨rfl, rfl, rfl, rfl, rfl, trivial⟩, rfl⟩ ?_
 rintro i _ _ ⟨Lt, At_, ct, hi6, hrt, hρ, rfl⟩
 obtain ⟨base, rfl⟩ := hρ.base
 clear hρ
 refine X.seq ?_
 refine X.seq ?_
 refine X.region rfl ?_
 refine RL.move rfl ?_
 refine RL.move rfl ?_
 refine RL.nilCheck rfl rfl ?_
 refine RL.fieldAddr rfl fd42_2 rfl ?_
 refine RL.loadO (hm := ⟨List.mem_append_right _ (gE0 ha6).out⟩) rfl sc40 rfl rfl ?_
 refine RL.len rfl sl40 rfl ?_
 refine RL.cmp_s rfl rfl rfl rfl (fun hlt => ?_) (fun hlt => ?_)
 ·replace hlt : (_ : Int) < _ := hlt
  obtain ⟨e, he⟩ : ∃ e, g6.evs[i]? = some e := ⟨_, List.getElem?_eq_getElem (by omega)⟩
  have hoe := hok6 i e he
  have hvb := vlW_bd _ hok6 i (by omega)
  have htk := take_snoc he
  have htl := tdW_le (g6.evs.take i)
  rw [List.length_take] at htl
  cases e with
  | tref id =>
    have e1 : vlW (g6.evs.take (i + 1)) = vlW (g6.evs.take i) := by rw [htk, vlW_app]; exact Int.add_zero _
    have e2 : tdW (g6.evs.take (i + 1)) = tdW (g6.evs.take i) := by rw [htk, tdW_app]; exact List.append_nil _
    refine RL.nil ?_
    refine X.cond_t rfl ?_
    refine X.skip ?_
    refine X.seq ?_
    refine X.block ?_
    refine X.seq ?_
    refine X.region rfl ?_
    refine RL.move rfl ?_
    refine RL.nilCheck rfl rfl ?_
    refine RL.fieldAddr rfl fd42_2 rfl ?_
    refine RL.loadO (hm := ⟨List.mem_append_right _ (gE0 ha6).out⟩) rfl sc40 rfl rfl ?_
    refine RL.move rfl ?_
    refine RL.indexAddr rfl sl40 rfl rfl rfl rfl (by omega) ?_
    refine RL.fieldAddr rfl fd50_0 rfl ?_
    refine RL.loadO (hm := ⟨List.mem_append_right _ (evE0 ha6).out⟩) rfl sc3 rfl ((ev_get _ (k := 0) (by decide) he).trans rfl) ?_
    refine RL.nil ?_
    refine X.block ?_
    refine X.seq ?_
    refine X.region rfl ?_
    refine RL.cmp_f rfl rfl rfl rfl (by show ¬ ((_ : Int) = _); decide) ?_
    refine RL.assign rfl ?_
    refine RL.nil ?_
    refine X.cond_f rfl ?_
    refine X.seq ?_
    refine X.region rfl ?_
    refine RL.cmp_f rfl rfl rfl rfl (by show ¬ ((_ : Int) = _); decide) ?_
    refine RL.assign rfl ?_
    refine RL.nil ?_
    refine X.cond_f rfl ?_
    refine X.skip ?_
    refine X.blk ?_
    refine X.blk ?_
    refine X.region rfl ?_
    refine RL.move rfl ?_
    refine RL.add rfl rfl rfl (by omega) ?_
    refine RL.assign rfl ?_
    refine RL.nil ?_
    refine X.hyp ⟨rfl, i + 1, by omega, _, (List.Sublist.refl _), Lt, At_, ct, by omega, by rw [e2]; exact hrt, ⟨rfl, rfl, congrArg (Value.int .i64) e1.symm, by rw [e2]; rfl, rfl, trivial⟩, rfl⟩
  | call id =>
    have e1 : vlW (g6.evs.take (i + 1)) = vlW (g6.evs.take i) := by rw [htk, vlW_app]; exact Int.add_zero _
    have e2 : tdW (g6.evs.take (i + 1)) = tdW (g6.evs.take i) := by rw [htk, tdW_app]; exact List.append_nil _
    refine RL.nil ?_
    refine X.cond_t rfl ?_
    refine X.skip ?_
    refine X.seq ?_
    refine X.block ?_
    refine X.seq ?_
    refine X.region rfl ?_
    refine RL.move rfl ?_
    refine RL.nilCheck rfl rfl ?_
    refine RL.fieldAddr rfl fd42_2 rfl ?_
    refine RL.loadO (hm := ⟨List.mem_append_right _ (gE0 ha6).out⟩) rfl sc40 rfl rfl ?_
    refine RL.move rfl ?_
    refine RL.indexAddr rfl sl40 rfl rfl rfl rfl (by omega) ?_
    refine RL.fieldAddr rfl fd50_0 rfl ?_
    refine RL.loadO (hm := ⟨List.mem_append_right _ (evE0 ha6).out⟩) rfl sc3 rfl ((ev_get _ (k := 0) (by decide) he).trans rfl) ?_
    refine RL.nil ?_
    refine X.block ?_
    refine X.seq ?_
    refine X.region rfl ?_
    refine RL.cmp_f rfl rfl rfl rfl (by show ¬ ((_ : Int) = _); decide) ?_
    refine RL.assign rfl ?_
    refine RL.nil ?_
    refine X.cond_f rfl ?_
    refine X.seq ?_
    refine X.region rfl ?_
    refine RL.cmp_f rfl rfl rfl rfl (by show ¬ ((_ : Int) = _); decide) ?_
    refine RL.assign rfl ?_
    refine RL.nil ?_
    refine X.cond_f rfl ?_
    refine X.skip ?_
    refine X.blk ?_
    refine X.blk ?_
    refine X.region rfl ?_
    refine RL.move rfl ?_
    refine RL.add rfl rfl rfl (by omega) ?_
    refine RL.assign rfl ?_
    refine RL.nil ?_
    refine X.hyp ⟨rfl, i + 1, by omega, _, (List.Sublist.refl _), Lt, At_, ct, by omega, by rw [e2]; exact hrt, ⟨rfl, rfl, congrArg (Value.int .i64) e1.symm, by rw [e2]; rfl, rfl, trivial⟩, rfl⟩
  | run v n =>
    obtain ⟨hv1, hv2, hv3⟩ : v = vlW (g6.evs.take i) + n ∧ -128 ≤ n ∧ n ≤ 127 := hoe
    have e1 : vlW (g6.evs.take (i + 1)) = vlW (g6.evs.take i) + n := by rw [htk, vlW_app]; show _ + (n + 0) = _; omega
    have e2 : tdW (g6.evs.take (i + 1)) = tdW (g6.evs.take i) ++ [vlW (g6.evs.take i) + n] := by rw [htk, tdW_app, ← hv1]; rfl
    refine RL.nil ?_
    refine X.cond_t rfl ?_
    refine X.skip ?_
    refine X.seq ?_
    refine X.block ?_
    refine X.seq ?_
    refine X.region rfl ?_
    refine RL.move rfl ?_
    refine RL.nilCheck rfl rfl ?_
    refine RL.fieldAddr rfl fd42_2 rfl ?_
    refine RL.loadO (hm := ⟨List.mem_append_right _ (gE0 ha6).out⟩) rfl sc40 rfl rfl ?_
    refine RL.move rfl ?_
    refine RL.indexAddr rfl sl40 rfl rfl rfl rfl (by omega) ?_
    refine RL.fieldAddr rfl fd50_0 rfl ?_
    refine RL.loadO (hm := ⟨List.mem_append_right _ (evE0 ha6).out⟩) rfl sc3 rfl ((ev_get _ (k := 0) (by decide) he).trans rfl) ?_
    refine RL.nil ?_
    refine X.block ?_
    refine X.seq ?_
    refine X.region rfl ?_
    refine RL.cmp_t rfl rfl rfl rfl (by show ((_ : Int) = _); rfl) ?_
    refine RL.assign rfl ?_
    refine RL.nil ?_
    refine X.cond_t rfl ?_
    refine X.seq ?_
    refine X.region rfl ?_
    refine RL.move rfl ?_
    refine RL.move rfl ?_
    refine RL.nilCheck rfl rfl ?_
    refine RL.fieldAddr rfl fd42_2 rfl ?_
    refine RL.loadO (hm := ⟨List.mem_append_right _ (gE0 ha6).out⟩) rfl sc40 rfl rfl ?_
    refine RL.move rfl ?_
    refine RL.indexAddr rfl sl40 rfl rfl rfl rfl (by omega) ?_
    refine RL.fieldAddr rfl fd50_4 rfl ?_
    refine RL.loadO (hm := ⟨List.mem_append_right _ (evE0 ha6).out⟩) rfl sc2 rfl ((ev_get _ (k := 4) (by decide) he).trans rfl) ?_
    refine RL.add rfl rfl rfl (by omega) ?_
    refine RL.assign rfl ?_
    refine RL.nil ?_
    refine X.seq ?_
    refine X.seq ?_
    refine X.region rfl ?_
    refine RL.move rfl ?_
    refine RL.nilCheck rfl rfl ?_
    refine RL.fieldAddr rfl fd42_2 rfl ?_
    refine RL.loadO (hm := ⟨List.mem_append_right _ (gE0 ha6).out⟩) rfl sc40 rfl rfl ?_
    refine RL.move rfl ?_
    refine RL.indexAddr rfl sl40 rfl rfl rfl rfl (by omega) ?_
    refine RL.fieldAddr rfl fd50_3 rfl ?_
    refine RL.loadO (hm := ⟨List.mem_append_right _ (evE0 ha6).out⟩) rfl sc2 rfl ((ev_get _ (k := 3) (by decide) he).trans rfl) ?_
    refine RL.move rfl ?_
    refine RL.cmp_f rfl rfl rfl rfl (by show ¬ ((_ : Int) ≠ _); exact fun h => h hv1) ?_
    refine RL.nil ?_
    refine X.cond_f rfl ?_
    refine X.skip ?_
    refine X.region rfl ?_
    refine RL.move rfl ?_
    refine RL.move rfl ?_
    refine RL.bs1I rfl rfl sl48 zt2 rfl ?_
    intro b7 hb7
    refine RL.app1I (Lr := Lt) (Lz := blocks s6) (xs := ints (tdW (g6.evs.take i))) rfl rfl sl48 el_i64 Tryz.underlying48 (List.Perm.refl _) rfl rfl hrt (by rw [ints_length]; omega) (n := (tdW (g6.evs.take i)).length + 1) (by rw [ints_length]) ?_
    intro A8 c8 Lr8 hr8
    refine RL.assign rfl ?_
    refine RL.nil ?_
    refine X.blk ?_
    refine X.blk ?_
    refine X.region rfl ?_
    refine RL.move rfl ?_
    refine RL.add rfl rfl rfl (by omega) ?_
    refine RL.assign rfl ?_
    refine RL.nil ?_
    refine X.hyp ⟨rfl, i + 1, by omega, _, ((List.Sublist.refl _).append (List.sublist_append_left _ _)), Lr8, A8, c8, by omega, by rw [e2, List.length_append]; unfold ints; rw [List.map_append]; exact hr8, ⟨rfl, rfl, congrArg (Value.int .i64) e1.symm, by rw [e2, List.length_append]; rfl, rfl, trivial⟩, rfl⟩
  | done id v =>
    have e1 : vlW (g6.evs.take (i + 1)) = vlW (g6.evs.take i) := by rw [htk, vlW_app]; exact Int.add_zero _
    have e2 : tdW (g6.evs.take (i + 1)) = tdW (g6.evs.take i) := by rw [htk, tdW_app]; exact List.append_nil _
    have hmem : v ∈ tdW (g6.evs.take i) := hoe
    refine RL.nil ?_
    refine X.cond_t rfl ?_
    refine X.skip ?_
    refine X.seq ?_
    refine X.block ?_
    refine X.seq ?_
    refine X.region rfl ?_
    refine RL.move rfl ?_
    refine RL.nilCheck rfl rfl ?_
    refine RL.fieldAddr rfl fd42_2 rfl ?_
    refine RL.loadO (hm := ⟨List.mem_append_right _ (gE0 ha6).out⟩) rfl sc40 rfl rfl ?_
    refine RL.move rfl ?_
    refine RL.indexAddr rfl sl40 rfl rfl rfl rfl (by omega) ?_
    refine RL.fieldAddr rfl fd50_0 rfl ?_
    refine RL.loadO (hm := ⟨List.mem_append_right _ (evE0 ha6).out⟩) rfl sc3 rfl ((ev_get _ (k := 0) (by decide) he).trans rfl) ?_
    refine RL.nil ?_
    refine X.block ?_
    refine X.seq ?_
    refine X.region rfl ?_
    refine RL.cmp_f rfl rfl rfl rfl (by show ¬ ((_ : Int) = _); decide) ?_
    refine RL.assign rfl ?_
    refine RL.nil ?_
    refine X.cond_f rfl ?_
    refine X.seq ?_
    refine X.region rfl ?_
    refine RL.cmp_t rfl rfl rfl rfl (by show ((_ : Int) = _); rfl) ?_
    refine RL.assign rfl ?_
    refine RL.nil ?_
    refine X.cond_t rfl ?_
    refine X.seq ?_
    refine X.region rfl ?_
    refine RL.move rfl ?_
    refine RL.nilCheck rfl rfl ?_
    refine RL.fieldAddr rfl fd42_2 rfl ?_
    refine RL.loadO (hm := ⟨List.mem_append_right _ (gE0 ha6).out⟩) rfl sc40 rfl rfl ?_
    refine RL.move rfl ?_
    refine RL.indexAddr rfl sl40 rfl rfl rfl rfl (by omega) ?_
    refine RL.fieldAddr rfl fd50_5 rfl ?_
    refine RL.loadO (hm := ⟨List.mem_append_right _ (evE0 ha6).out⟩) rfl sc43 rfl ((ev_get _ (k := 5) (by decide) he).trans rfl) ?_
    refine RL.cmp_f rfl rfl rfl rfl (by show ¬ ((_ : Int) ≠ _); exact fun h => h rfl) ?_
    refine RL.move rfl ?_
    refine RL.move rfl ?_
    refine RL.move rfl ?_
    refine RL.nilCheck rfl rfl ?_
    refine RL.fieldAddr rfl fd42_2 rfl ?_
    refine RL.loadO (hm := ⟨List.mem_append_right _ (gE0 ha6).out⟩) rfl sc40 rfl rfl ?_
    refine RL.move rfl ?_
    refine RL.indexAddr rfl sl40 rfl rfl rfl rfl (by omega) ?_
    refine RL.fieldAddr rfl fd50_3 rfl ?_
    refine RL.loadO (hm := ⟨List.mem_append_right _ (evE0 ha6).out⟩) rfl sc2 rfl ((ev_get _ (k := 3) (by decide) he).trans rfl) ?_
    refine RL.fn0 rfl rfl rfl en11 (fun w hw => ((f_among (tdW (g6.evs.take i)) v At_ ct w (by omega) (row_rd hrt hw (fun p hp => List.mem_append_left _ hp))).mono fun y L hy => (by rw [hy, decide_eq_true hmem] : y = .bool true))) rfl ?_
    rintro _ _ rfl
    refine RL.not rfl rfl ?_
    refine RL.pick_f rfl rfl ?_
    refine RL.nil ?_
    refine X.cond_f rfl ?_
    refine X.skip ?_
    refine X.blk ?_
    refine X.blk ?_
    refine X.region rfl ?_
    refine RL.move rfl ?_
    refine RL.add rfl rfl rfl (by omega) ?_
    refine RL.assign rfl ?_
    refine RL.nil ?_
    refine X.hyp ⟨rfl, i + 1, by omega, _, (List.sublist_append_right _ _), Lt, At_, ct, by omega, by rw [e2]; exact hrt, ⟨rfl, rfl, congrArg (Value.int .i64) e1.symm, by rw [e2]; rfl, rfl, trivial⟩, rfl⟩
 replace hlt : ¬ ((_ : Int) < _) := hlt
 obtain rfl : i = g6.evs.length := by omega
 have hfin : vlW (g6.evs.take g6.evs.length) = g2.sum := by
   have h1 := ha6.good.sm
   rw [pend0 hz1 hz2 hz3, hs6] at h1
   rw [List.take_length]; omega
 refine RL.nil ?_
 refine X.cond_f rfl ?_
 refine X.exit rfl ?_
 refine X.seq ?_
 refine X.region rfl ?_
 refine RL.move rfl ?_
 refine RL.move rfl ?_
 refine RL.cmp_t rfl rfl rfl rfl (by show ((_ : Int) = _); exact hfin) ?_
 refine RL.move rfl ?_
 refine RL.fn0 rfl rfl rfl en5 (fun w hw => (hW w)) rfl ?_
 rintro _ _ rfl
 refine RL.pick_t rfl rfl ?_
 refine RL.assign rfl ?_
 refine RL.nil ?_
 refine X.ret ?_
 exact ret1 rfl rfl
end Go.Proofs.YtpcdcemcjbeajaaGreatDoor

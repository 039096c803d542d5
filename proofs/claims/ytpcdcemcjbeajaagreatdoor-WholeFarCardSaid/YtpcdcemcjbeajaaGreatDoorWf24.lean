/- WholeFar: FarTy, FarLb. -/
import Derived.KernelRfl
import Derived.Shelf.Abstract
import Derived.Test.YtpcdcemcjbeajaaGreatDoorProg
import Derived.Test.YtpcdcemcjbeajaaGreatDoorWf01
import Derived.Test.YtpcdcemcjbeajaaGreatDoorWf02
import Derived.Test.YtpcdcemcjbeajaaGreatDoorWf23
section
namespace Go.Proofs.YtpcdcemcjbeajaaGreatDoor
open Go.Shelf
theorem sc2 : Scalar Tryz.prog 2 := Scalar.mk' Tryz.underlying2 rfl (by kernel_rfl)
theorem zt2 : ZeroT Tryz.prog 2 [.int .i64 0] := ZeroT.mk' (v := .int .i64 0) (by kernel_rfl) rfl
theorem sc3 : Scalar Tryz.prog 3 := Scalar.mk' Tryz.underlying3 rfl (by kernel_rfl)
theorem zt4 : ZeroT Tryz.prog 4 [.bool false] := ZeroT.mk' (v := .bool false) (by kernel_rfl) rfl
theorem sl22 : SlT Tryz.prog 22 4 1 := ⟨Tryz.underlying22, size_of_info (by kernel_rfl)⟩
theorem sl23 : SlT Tryz.prog 23 46 1 := ⟨Tryz.underlying23, size_of_info (by kernel_rfl)⟩
theorem sl24 : SlT Tryz.prog 24 3 1 := ⟨Tryz.underlying24, size_of_info (by kernel_rfl)⟩
theorem sc28 : Scalar Tryz.prog 28 := Scalar.mk' Tryz.underlying28 rfl (by kernel_rfl)
theorem zt28 : ZeroT Tryz.prog 28 [.int .u64 0] := ZeroT.mk' (v := .int .u64 0) (by kernel_rfl) rfl
theorem sc38 : Scalar Tryz.prog 38 := Scalar.mk' Tryz.underlying38 rfl (by kernel_rfl)
theorem sl38 : SlT Tryz.prog 38 28 1 := ⟨Tryz.underlying38, size_of_info (by kernel_rfl)⟩
theorem sc40 : Scalar Tryz.prog 40 := Scalar.mk' Tryz.underlying40 rfl (by kernel_rfl)
theorem sl40 : SlT Tryz.prog 40 50 6 := ⟨Tryz.underlying40, size_of_info (by kernel_rfl)⟩
theorem fd42_1 : FldT Tryz.prog 42 1 1 := FldT.mk' (n := 1) Tryz.underlying42 rfl rfl (by kernel_rfl) rfl
theorem fd42_2 : FldT Tryz.prog 42 2 2 := FldT.mk' (n := 1) Tryz.underlying42 rfl rfl (by kernel_rfl) rfl
theorem sc43 : Scalar Tryz.prog 43 := Scalar.mk' Tryz.underlying43 rfl (by kernel_rfl)
theorem sc46 : Scalar Tryz.prog 46 := Scalar.mk' Tryz.underlying46 rfl (by kernel_rfl)
theorem sl48 : SlT Tryz.prog 48 2 1 := ⟨Tryz.underlying48, size_of_info (by kernel_rfl)⟩
theorem fd50_0 : FldT Tryz.prog 50 0 0 := FldT.mk' (n := 1) Tryz.underlying50 rfl rfl (by kernel_rfl) rfl
theorem fd50_3 : FldT Tryz.prog 50 3 3 := FldT.mk' (n := 1) Tryz.underlying50 rfl rfl (by kernel_rfl) rfl
theorem fd50_4 : FldT Tryz.prog 50 4 4 := FldT.mk' (n := 1) Tryz.underlying50 rfl rfl (by kernel_rfl) rfl
theorem fd50_5 : FldT Tryz.prog 50 5 5 := FldT.mk' (n := 1) Tryz.underlying50 rfl rfl (by kernel_rfl) rfl
theorem en4 : ∀ args w, (callFunc 4 args).run Tryz.prog w = .ok (.enter 4 args) w := enters_of Tryz.func4 (by kernel_rfl) rfl
theorem en5 : ∀ args w, (callFunc 5 args).run Tryz.prog w = .ok (.enter 5 args) w := enters_of Tryz.func5 (by kernel_rfl) rfl
theorem en6 : ∀ args w, (callFunc 6 args).run Tryz.prog w = .ok (.enter 6 args) w := enters_of Tryz.func6 (by kernel_rfl) rfl
theorem en7 : ∀ args w, (callFunc 7 args).run Tryz.prog w = .ok (.enter 7 args) w := enters_of Tryz.func7 (by kernel_rfl) rfl
theorem en8 : ∀ args w, (callFunc 8 args).run Tryz.prog w = .ok (.enter 8 args) w := enters_of Tryz.func8 (by kernel_rfl) rfl
theorem en9 : ∀ args w, (callFunc 9 args).run Tryz.prog w = .ok (.enter 9 args) w := enters_of Tryz.func9 (by kernel_rfl) rfl
theorem en10 : ∀ args w, (callFunc 10 args).run Tryz.prog w = .ok (.enter 10 args) w := enters_of Tryz.func10 (by kernel_rfl) rfl
theorem en11 : ∀ args w, (callFunc 11 args).run Tryz.prog w = .ok (.enter 11 args) w := enters_of Tryz.func11 (by kernel_rfl) rfl
theorem en177 : ∀ args w, (callFunc 177 args).run Tryz.prog w = .ok (.enter 177 args) w := enters_of Tryz.func177 (by kernel_rfl) rfl
theorem en319 : ∀ args w, (callFunc 319 args).run Tryz.prog w = .ok (.enter 319 args) w := enters_of Tryz.func319 (by kernel_rfl) rfl
theorem en372 : ∀ args w, (callFunc 372 args).run Tryz.prog w = .ok (.enter 372 args) w := enters_of Tryz.func372 (by kernel_rfl) rfl
theorem en413 : ∀ args w, (callFunc 413 args).run Tryz.prog w = .ok (.enter 413 args) w := enters_of Tryz.func413 (by kernel_rfl) rfl
end Go.Proofs.YtpcdcemcjbeajaaGreatDoor
end
section
set_option linter.unusedVariables false
set_option linter.unusedSimpArgs false
namespace Go.Proofs.YtpcdcemcjbeajaaGreatDoor
open Go Go.RowKit
attribute [local irreducible] X RL W Ctr
theorem f_pick (x n : Int) (w : World) (hn : n ≤ 1000) (hn0 : -1000 ≤ n) : Ctr Tryz.prog 9 [.int .i64 x, .int .i64 n] w [] fun v _ => v = .int .i64 (if n < 1 then 0 else x % n) := by
 refine Ctr.intro0 (n := 17) Tryz.func9 rfl Tryz.ntmps9 (Nat.le_of_ble_eq_true rfl) ?_
 refine X.seq ?_
 refine X.region rfl ?_
 refine RL.assign rfl ?_
 refine RL.nil ?_
 refine X.seq ?_
 refine X.seq ?_
 refine X.region rfl ?_
 refine RL.move rfl ?_
 refine RL.cmp_s rfl rfl rfl rfl (fun h => ?_) (fun h => ?_)
 ·replace h : (_ : Int) < _ := h
  refine RL.nil ?_
  refine X.cond_t rfl ?_
  refine X.seq ?_
  refine X.region rfl ?_
  refine RL.assign rfl ?_
  refine RL.nil ?_
  refine X.ret ?_
  refine ret1 rfl ?_
  show (_ : Value) = _
  rw [if_pos h]
 replace h : ¬ ((_ : Int) < _) := h
 have e1 := Int.emod_nonneg x (show n ≠ 0 by omega)
 have e2 := Int.emod_lt_of_pos x (show 0 < n by omega)
 have e3 : x.tmod n = if x % n = 0 ∨ 0 ≤ x then x % n else x % n - n := by
   rw [Int.tmod_eq_emod]
   have e4 : (n ∣ x) ↔ x % n = 0 := Int.dvd_iff_emod_eq_zero
   have e5 : (n.natAbs : Int) = n := by omega
   by_cases g1 : 0 ≤ x <;> by_cases g2 : x % n = 0 <;> simp [g1, g2, e4, e5]
 refine RL.nil ?_
 refine X.cond_f rfl ?_
 refine X.skip ?_
 refine X.seq ?_
 refine X.region rfl ?_
 refine RL.move rfl ?_
 refine RL.move rfl ?_
 refine RL.rem rfl rfl rfl (by omega) ?_
 refine RL.assign rfl ?_
 refine RL.nil ?_
 refine X.seq ?_
 refine X.seq ?_
 refine X.region rfl ?_
 refine RL.move rfl ?_
 refine RL.cmp_s rfl rfl rfl rfl (fun g => ?_) (fun g => ?_)
 ·replace g : (_ : Int) < _ := g
  refine RL.nil ?_
  refine X.cond_t rfl ?_
  refine X.region rfl ?_
  refine RL.move rfl ?_
  refine RL.move rfl ?_
  refine RL.add rfl rfl rfl (by rw [e3] at g ⊢; split <;> omega) ?_
  refine RL.assign rfl ?_
  refine RL.nil ?_
  refine X.seq ?_
  refine X.region rfl ?_
  refine RL.move rfl ?_
  refine RL.assign rfl ?_
  refine RL.nil ?_
  refine X.ret ?_
  refine ret1 rfl ?_
  show (_ : Value) = _
  rw [if_neg (by omega)]
  congr 1
  rw [e3] at g ⊢
  split at g <;> simp_all <;> omega
 replace g : ¬ ((_ : Int) < _) := g
 refine RL.nil ?_
 refine X.cond_f rfl ?_
 refine X.skip ?_
 refine X.seq ?_
 refine X.region rfl ?_
 refine RL.move rfl ?_
 refine RL.assign rfl ?_
 refine RL.nil ?_
 refine X.ret ?_
 refine ret1 rfl ?_
 show (_ : Value) = _
 rw [if_neg (by omega)]
 congr 1
 rw [e3] at g ⊢
 split at g <;> simp_all <;> omega
def Rd (w : World) (A : Option Addr) (cs : List Value) : Prop := ∃ b o, (0 < cs.length → A = some ⟨b, o, none⟩) ∧ CellsAt w b o cs
def ints (xs : List Int) : List Value := xs.map (Value.int .i64)
theorem ints_length (xs : List Int) : (ints xs).length = xs.length := by simp [ints]
theorem ints_get {xs : List Int} {i : Nat} {x : Int} (h : xs[i]? = some x) : (ints xs)[i]? = some (.int .i64 x) := by simp [ints, h]
theorem row_rd {e sz m cp : Nat} {A : Option Addr} {xs : List Value} {Lr L : List Ent} {w0 w : World} {S : List Nat} (h : Row e sz (.slice A m cp) xs Lr) (hst : St w0 S w L) (hs : ∀ p ∈ Lr, p ∈ L) : Rd w A xs := by
  cases h with
  | nil => exact ⟨0, 0, fun h => by simp at h, fun j v h => by simp at h⟩
  | blk b m cp xs junk h1 h2 h3 => exact ⟨b, 0, fun _ => rfl, fun j v hj => by
      have := hst.cellsO (b := b) (t := e) (l := xs ++ junk) (fr := (0, 0)) (hs _ List.mem_cons_self) 0 j v
      rw [List.drop_zero, List.getElem?_append_left (List.getElem?_eq_some_iff.1 hj).1] at this
      exact this hj⟩
theorem f_among (xs : List Int) (v : Int) (A : Option Addr) (c : Nat) (w : World) (hx : xs.length ≤ 1000000) (hrd : Rd w A (ints xs)) : Ctr Tryz.prog 11 [.slice A xs.length c, .int .i64 v] w [] fun y _ => y = .bool (decide (v ∈ xs)) := by
 obtain ⟨ba, oa, ha1, ha2⟩ := hrd
 rw [ints_length] at ha1
 refine Ctr.intro0 (n := 18) Tryz.func11 rfl Tryz.ntmps11 (Nat.le_of_ble_eq_true rfl) ?_
 refine X.seq ?_
 refine X.region rfl ?_
 refine RL.assign rfl ?_
 refine RL.nil ?_
 refine X.seq ?_
 refine X.seq ?_
 refine X.region rfl ?_
 refine RL.assign rfl ?_
 refine RL.nil ?_
 refine X.block ?_
 refine X.loop (γ := Nat) (fun g ρ L => (g ≤ xs.length) ∧ (v ∉ xs.take g) ∧ Has ρ [(0, .slice A xs.length c), (1, .int .i64 v), (5, .int .i64 g)] ∧ L = []) (fun g => xs.length - g) (0) ⟨_, (by repeat (first | exact sb0 _ | exact sb1 _ | (rw [List.append_nil]; exact sb0 _) | exact sb2 _ _ | exact sb3 _ _ _ | apply sb4 | apply sb5 | apply sb6)), Nat.zero_le _, by simp, ⟨rfl, rfl, rfl, trivial⟩, rfl⟩ ?_
 rintro g _ _ ⟨q1, q2, hρ, rfl⟩
 obtain ⟨base, rfl⟩ := hρ.base
 clear hρ
 refine X.seq ?_
 refine X.seq ?_
 refine X.region rfl ?_
 refine RL.move rfl ?_
 refine RL.move rfl ?_
 refine RL.len rfl sl48 rfl ?_
 refine RL.cmp_s rfl rfl rfl rfl (fun h => ?_) (fun h => ?_)
 ·replace h : (_ : Int) < _ := h
  obtain ⟨a, hxa⟩ : ∃ a, xs[g]? = some a := ⟨_, List.getElem?_eq_getElem (by omega)⟩
  refine RL.nil ?_
  refine X.cond_t rfl ?_
  refine X.skip ?_
  refine X.seq ?_
  refine X.block ?_
  refine X.seq ?_
  refine X.region rfl ?_
  refine RL.move rfl ?_
  refine RL.move rfl ?_
  refine RL.indexAddr rfl sl48 rfl rfl (ha1 (by omega)) rfl (by omega) ?_
  refine RL.loadI rfl sc2 rfl (by rw [Nat.mul_one]; exact ha2 g _ (ints_get hxa)) (by simp) ?_
  refine RL.move rfl ?_
  refine RL.cmp_s rfl rfl rfl rfl (fun he => ?_) (fun he => ?_)
  ·replace he : (_ : Int) = _ := he
   refine RL.nil ?_
   refine X.cond_t rfl ?_
   refine X.seq ?_
   refine X.region rfl ?_
   refine RL.assign rfl ?_
   refine RL.nil ?_
   refine X.ret ?_
   refine ret1 rfl ?_
   show (_ : Value) = _
   rw [decide_eq_true]
   exact he ▸ List.mem_of_getElem? hxa
  replace he : ¬ ((_ : Int) = _) := he
  refine RL.nil ?_
  refine X.cond_f rfl ?_
  refine X.skip ?_
  refine X.blk ?_
  refine X.region rfl ?_
  refine RL.move rfl ?_
  refine RL.add rfl rfl rfl (by omega) ?_
  refine RL.assign rfl ?_
  refine RL.nil ?_
  refine X.hyp ⟨rfl, g + 1, by omega, _, (by repeat (first | exact sb0 _ | exact sb1 _ | (rw [List.append_nil]; exact sb0 _) | exact sb2 _ _ | exact sb3 _ _ _ | apply sb4 | apply sb5 | apply sb6)), by omega, by
      rw [List.take_add_one, hxa]
      intro hm
      rcases List.mem_append.1 hm with hm | hm
      · exact q2 hm
      · exact he (List.mem_singleton.1 hm).symm, ⟨rfl, rfl, rfl, trivial⟩, rfl⟩
 replace h : ¬ ((_ : Int) < _) := h
 refine RL.nil ?_
 refine X.cond_f rfl ?_
 refine X.exit rfl ?_
 refine X.seq ?_
 refine X.region rfl ?_
 refine RL.assign rfl ?_
 refine RL.nil ?_
 refine X.ret ?_
 refine ret1 rfl ?_
 show (_ : Value) = _
 rw [List.take_of_length_le (by omega)] at q2
 rw [decide_eq_false q2]
theorem gE0 {s : Sta} {g : Gh} {gb H : Nat} (ha : At s g gb H) : HasE gb (cel 42 [.pointer (some ⟨(s.F 2).1, 0, none⟩), .int .i64 ((H + 1 : Nat) : Int), .slice (some ⟨(s.F 5).1, 0, none⟩) g.evs.length (s.F 5).2]) (blocks s) := by
  have h := gE ha []
  rwa [List.append_nil] at h
theorem gL {s : Sta} {g : Gh} {gb H : Nat} (ha : At s g gb H) (LH : List Ent) : HasE gb (cel 42 [.pointer (some ⟨(s.F 2).1, 0, none⟩), .int .i64 ((H + 1 : Nat) : Int), .slice (some ⟨(s.F 5).1, 0, none⟩) g.evs.length (s.F 5).2]) (blocks s ++ LH) := gE ha LH
def Mo (s : Sta) (g : Gh) (t a : Nat) (b : Bool) : Prop := b = true ∧ t + 1 + potN s g.qs ≤ 223 ∨ b = false ∧ t + potN s g.qs ≤ 223 ∧ s.net = [] ∧ (1 ≤ a → g.qs = [] ∧ potT s.t0 = 0)
theorem mo_start {s s2 : Sta} {g g2 : Gh} {t c : Nat} (h : t + potN s g.qs ≤ 223) (hc : c = 0 ∧ potN s2 g2.qs + 1 = potN s g.qs ∨ c = 12 ∧ s.net = [] ∧ g2 = g ∧ s2.net = s.net ∧ s2.t0 = s.t0 ∧ potN s2 g2.qs = potN s g.qs) : Mo s2 g2 t 0 (decide (cmpP .eql (c : Int) 0)) := by
  rcases hc with ⟨rfl, h1⟩ | ⟨rfl, h1, h2, h3, h4, h5⟩
  · exact .inl ⟨rfl, by omega⟩
  · exact .inr ⟨rfl, by omega, by rw [h3, h1], fun h => absurd h (by omega)⟩
theorem mo_step {s s2 : Sta} {g g2 : Gh} {t a c : Nat} {b b2 : Bool} (h : Mo s g t a b) (hc : c = 0 ∧ potN s2 g2.qs + 1 = potN s g.qs ∨ c = 12 ∧ (a = 0 → g.qs = [] ∧ potT s.t0 = 0) ∧ g2 = g ∧ s2.net = s.net ∧ s2.t0 = s.t0 ∧ potN s2 g2.qs = potN s g.qs) (hb : b2 = (b || decide (cmpP .eql (c : Int) 0))) : Mo s2 g2 t (a + 1) b2 := by
  subst hb
  rcases h with ⟨rfl, h⟩ | ⟨rfl, h, h6, h7⟩
  · refine .inl ⟨rfl, ?_⟩
    rcases hc with ⟨_, h1⟩ | ⟨_, _, _, _, _, h1⟩ <;> omega
  · rcases hc with ⟨rfl, h1⟩ | ⟨rfl, h1, rfl, h3, h4, h5⟩
    · exact .inl ⟨rfl, by omega⟩
    · refine .inr ⟨rfl, by omega, by rw [h3, h6], fun _ => ?_⟩
      rw [h4]
      by_cases h0 : a = 0
      · exact h1 h0
      · exact h7 (by omega)
set_option maxHeartbeats 1000000 in
theorem f_calm {s : Sta} {g : Gh} {gb H : Nat} (ha : At s g gb H) (hH : H ≤ 3) {w : World} (hown : ∀ p ∈ blocks s, w.heap[p.1]? = some p.2) (hnd : (keys (blocks s)).Nodup) : Ctr Tryz.prog 10 [.pointer (some ⟨gb, 0, none⟩)] w (blocks s) fun y L' => y = .bool true ∧ ∃ (s2 : Sta) (g2 : Gh), L' = blocks s2 ∧ At s2 g2 gb H ∧ g2.sum = g.sum ∧ g2.nc = g.nc ∧ s2.net = [] ∧ g2.qs = [] ∧ potT s2.t0 = 0 := by
 have hp0 : 0 + potN s g.qs ≤ 223 := by have := ha.good.po; have := ha.good.nc; omega
 refine Ctr.intro (n := 44) Tryz.func10 rfl Tryz.ntmps10 (Nat.le_of_ble_eq_true rfl) hown hnd ?_
 refine X.seq ?_
 refine X.region rfl ?_
 refine RL.assign rfl ?_
 refine RL.nil ?_
 refine X.seq ?_
 refine X.seq ?_
 refine X.region rfl ?_
 refine RL.assign rfl ?_
 refine RL.nil ?_
 refine X.block ?_
 refine X.loop (γ := Nat) (fun t ρ L => ∃ s2 : Sta, ∃ g2 : Gh, (At s2 g2 gb H) ∧ (g2.sum = g.sum) ∧ (g2.nc = g.nc) ∧ (t + potN s2 g2.qs ≤ 223) ∧ Has ρ [(0, .pointer (some ⟨gb, 0, none⟩)), (3, .int .i64 t)] ∧ L = blocks s2) (fun t => 3000 - t) (0) ⟨_, (by repeat (first | exact sb0 _ | exact sb1 _ | (rw [List.append_nil]; exact sb0 _) | exact sb2 _ _ | exact sb3 _ _ _ | apply sb4 | apply sb5 | apply sb6)), s, g, ha, rfl, rfl, hp0, ⟨rfl, rfl, trivial⟩, rfl⟩ ?_
 rintro t _ _ ⟨s2, g2, ha2, hs2, hn2, hp2, hρ, rfl⟩
 obtain ⟨base, rfl⟩ := hρ.base
 clear hρ
 refine X.seq ?_
 refine X.seq ?_
 refine X.region rfl ?_
 refine RL.move rfl ?_
 refine RL.cmp_t rfl rfl rfl rfl (by show ((_ : Int) < _); omega) ?_
 refine RL.nil ?_
 refine X.cond_t rfl ?_
 refine X.skip ?_
 refine X.seq ?_
 refine X.block ?_
 refine X.seq ?_
 refine X.region rfl ?_
 refine RL.move rfl ?_
 refine RL.bldC (vs := [(0, .int .i64 22)]) (cells := actC 22 0 0 0) rfl rfl (fun w => bld22 w) ?_
 refine RL.fn (Lp := blocks s2) (Lr := []) rfl rfl rfl en8 (by rw [List.append_nil]) (fun w1 hw1 => c_deliver ha2 (fun p hp => hw1.own p (List.mem_append_left _ hp)) (by have := hw1.nodup; rwa [List.append_nil] at this) 0) rfl ?_
 rintro _ Lz ⟨s3, g3, v3, c3, rfl, ⟨Jk, hL⟩, ha3, hs3, hn3, hc3⟩
 refine RL.perm (L' := blocks s3 ++ Jk) rfl (by rw [List.append_nil]; exact hL.symm) ?_
 refine RL.drop rfl (List.sublist_append_left _ _) ?_
 refine RL.move rfl ?_
 refine RL.extract rfl rfl rfl (Eq.mpr (withV_eq _ _) ?_)
 refine RL.extract rfl rfl rfl ?_
 refine RL.assign rfl (Eq.mpr (withV_eq _ _) ?_)
 refine RL.assign rfl ?_
 refine RL.nil ?_
 refine X.seq ?_
 refine X.region rfl ?_
 refine RL.move rfl ?_
 refine RL.cmp_d rfl rfl rfl rfl ?_
 refine RL.assign rfl ?_
 refine RL.nil ?_
 refine X.seq ?_
 refine X.seq ?_
 refine X.region rfl ?_
 refine RL.assign rfl ?_
 refine RL.nil ?_
 refine X.block ?_
 refine X.loop (γ := Nat) (fun a ρ L => ∃ s4 : Sta, ∃ g4 : Gh, ∃ b : Bool, (At s4 g4 gb H) ∧ (g4.sum = g.sum) ∧ (g4.nc = g.nc) ∧ (a ≤ H + 1) ∧ (Mo s4 g4 t a b) ∧ Has ρ [(0, .pointer (some ⟨gb, 0, none⟩)), (3, .int .i64 t), (6, .bool b), (7, .int .i64 a)] ∧ L = blocks s4) (fun a => H + 1 - a) (0) ⟨_, (by repeat (first | exact sb0 _ | exact sb1 _ | (rw [List.append_nil]; exact sb0 _) | exact sb2 _ _ | exact sb3 _ _ _ | apply sb4 | apply sb5 | apply sb6)), s3, g3, decide (cmpP .eql (c3 : Int) 0), ha3, hs3.trans hs2, hn3.trans hn2, Nat.zero_le _, mo_start hp2 hc3, ⟨rfl, rfl, rfl, rfl, trivial⟩, rfl⟩ ?_
 rintro a _ _ ⟨s4, g4, b, ha4, hs4, hn4, hle, hmo, hρ, rfl⟩
 obtain ⟨base, rfl⟩ := hρ.base
 clear hρ
 refine X.seq ?_
 refine X.seq ?_
 refine X.region rfl ?_
 refine RL.move rfl ?_
 refine RL.move rfl ?_
 refine RL.nilCheck rfl rfl ?_
 refine RL.fieldAddr rfl fd42_1 rfl ?_
 refine RL.loadO (hm := gE0 ha4) rfl sc3 rfl rfl ?_
 refine RL.cmp_s rfl rfl rfl rfl (fun hlt => ?_) (fun hlt => ?_)
 ·replace hlt : (_ : Int) < _ := hlt
  refine RL.nil ?_
  refine X.cond_t rfl ?_
  refine X.skip ?_
  refine X.seq ?_
  refine X.block ?_
  refine X.seq ?_
  refine X.region rfl ?_
  refine RL.move rfl ?_
  refine RL.move rfl ?_
  refine RL.bldC (vs := [(0, .int .i64 21), (1, .int .i64 (a : Int))]) (cells := actC 21 a 0 0) rfl rfl (fun w => bld21 a w) ?_
  refine RL.fn (Lp := blocks s4) (Lr := []) rfl rfl rfl en8 (by rw [List.append_nil]) (fun w1 hw1 => c_step ha4 (fun p hp => hw1.own p (List.mem_append_left _ hp)) (by have := hw1.nodup; rwa [List.append_nil] at this) (a := a) (by omega) (n := 0) (Int.le_refl 0)) rfl ?_
  rintro _ Lz ⟨s5, g5, v5, c5, rfl, ⟨Jk, hL⟩, ha5, hs5, hn5, hc5⟩
  refine RL.perm (L' := blocks s5 ++ Jk) rfl (by rw [List.append_nil]; exact hL.symm) ?_
  refine RL.drop rfl (List.sublist_append_left _ _) ?_
  refine RL.move rfl ?_
  refine RL.extract rfl rfl rfl (Eq.mpr (withV_eq _ _) ?_)
  refine RL.extract rfl rfl rfl ?_
  refine RL.assign rfl (Eq.mpr (withV_eq _ _) ?_)
  refine RL.assign rfl ?_
  refine RL.nil ?_
  cases b
  ·refine X.region rfl ?_
   refine RL.move rfl ?_
   refine RL.move rfl ?_
   refine RL.move rfl ?_
   refine RL.cmp_d rfl rfl rfl rfl ?_
   refine RL.pick_f rfl rfl ?_
   refine RL.assign rfl ?_
   refine RL.nil ?_
   refine X.blk ?_
   refine X.region rfl ?_
   refine RL.move rfl ?_
   refine RL.add rfl rfl rfl (by omega) ?_
   refine RL.assign rfl ?_
   refine RL.nil ?_
   refine X.hyp ⟨rfl, a + 1, by omega, _, (by repeat (first | exact sb0 _ | exact sb1 _ | (rw [List.append_nil]; exact sb0 _) | exact sb2 _ _ | exact sb3 _ _ _ | apply sb4 | apply sb5 | apply sb6)), s5, g5, _, ha5, hs5.trans hs4, hn5.trans hn4, by omega, mo_step hmo hc5 rfl, ⟨rfl, rfl, rfl, rfl, trivial⟩, rfl⟩
  refine X.region rfl ?_
  refine RL.move rfl ?_
  refine RL.move rfl ?_
  refine RL.skip rfl ?_
  refine RL.skip rfl ?_
  refine RL.pick_t rfl rfl ?_
  refine RL.assign rfl ?_
  refine RL.nil ?_
  refine X.blk ?_
  refine X.region rfl ?_
  refine RL.move rfl ?_
  refine RL.add rfl rfl rfl (by omega) ?_
  refine RL.assign rfl ?_
  refine RL.nil ?_
  refine X.hyp ⟨rfl, a + 1, by omega, _, (by repeat (first | exact sb0 _ | exact sb1 _ | (rw [List.append_nil]; exact sb0 _) | exact sb2 _ _ | exact sb3 _ _ _ | apply sb4 | apply sb5 | apply sb6)), s5, g5, _, ha5, hs5.trans hs4, hn5.trans hn4, by omega, mo_step hmo hc5 rfl, ⟨rfl, rfl, rfl, rfl, trivial⟩, rfl⟩
 replace hlt : ¬ ((_ : Int) < _) := hlt
 refine RL.nil ?_
 refine X.cond_f rfl ?_
 refine X.exit rfl ?_
 refine X.seq ?_
 have hn0 : 1 ≤ a := by omega
 cases b
 ·refine X.region rfl ?_
  refine RL.move rfl ?_
  refine RL.not rfl rfl ?_
  refine RL.nil ?_
  refine X.cond_t rfl ?_
  refine X.seq ?_
  refine X.region rfl ?_
  refine RL.assign rfl ?_
  refine RL.nil ?_
  refine X.ret ?_
  rcases hmo with ⟨h, _⟩ | ⟨_, _, h1, h2⟩
  · cases h
  · exact ret1 rfl ⟨rfl, s4, g4, rfl, ha4, hs4, hn4, h1, (h2 hn0).1, (h2 hn0).2⟩
 refine X.region rfl ?_
 refine RL.move rfl ?_
 refine RL.not rfl rfl ?_
 refine RL.nil ?_
 refine X.cond_f rfl ?_
 refine X.skip ?_
 refine X.blk ?_
 refine X.region rfl ?_
 refine RL.move rfl ?_
 refine RL.add rfl rfl rfl (by omega) ?_
 refine RL.assign rfl ?_
 refine RL.nil ?_
 refine X.hyp ⟨rfl, t + 1, by omega, _, (by repeat (first | exact sb0 _ | exact sb1 _ | (rw [List.append_nil]; exact sb0 _) | exact sb2 _ _ | exact sb3 _ _ _ | apply sb4 | apply sb5 | apply sb6)), s4, g4, ha4, hs4, hn4, hmo.elim (fun h => h.2) (fun h => Bool.noConfusion h.1), ⟨rfl, rfl, trivial⟩, rfl⟩
end Go.Proofs.YtpcdcemcjbeajaaGreatDoor
end

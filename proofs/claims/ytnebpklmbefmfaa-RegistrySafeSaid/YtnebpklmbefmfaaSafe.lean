/- What moves stays in bounds; what is counted beside it. -/
import Derived.Test.YtnebpklmbefmfaaActs
set_option linter.unusedVariables false
set_option linter.unusedSimpArgs false
namespace Go.Proofs.Ytnebpklmbefmfaa
open Go.RowKit
structure Sv (N : Int) (s : Mv) : Prop where
  h0 : 0 ≤ s.c0 ∧ s.c0 ≤ N
  h1 : 0 ≤ s.c1 ∧ s.c1 ≤ N
  h2 : 0 ≤ s.c2 ∧ s.c2 ≤ N
  hi : 0 ≤ s.idle ∧ s.idle ≤ N
  on : 0 < s.c0 ∨ 0 < s.c1 ∨ 0 < s.c2 → s.on = true
theorem Sv.mono {N M : Int} {s : Mv} (h : Sv N s) (hm : N ≤ M) : Sv M s := ⟨by have := h.h0; omega, by have := h.h1; omega, by have := h.h2; omega, by have := h.hi; omega, h.on⟩
theorem Sv.c {N : Int} {s : Mv} (h : Sv N s) {k : Nat} (hk : k < 3) : 0 ≤ s.c k ∧ s.c k ≤ N := by
  match k, hk with
  | 0, _ => exact h.h0
  | 1, _ => exact h.h1
  | 2, _ => exact h.h2
theorem Sv.con {N : Int} {s : Mv} (h : Sv N s) {k : Nat} (hk : k < 3) (hp : 0 < s.c k) : s.on = true := by
  match k, hk with
  | 0, _ => exact h.on (.inl hp)
  | 1, _ => exact h.on (.inr (.inl hp))
  | 2, _ => exact h.on (.inr (.inr hp))
theorem Sv.put {N : Int} {s : Mv} (h : Sv N s) {n : Int} (hn : 0 ≤ n ∧ n ≤ N) (k : Nat) : Sv N (s.put k n) := by
  have := h.h0
  have := h.h1
  have := h.h2
  unfold Mv.put
  split <;> exact ⟨by first | exact hn | assumption, by first | exact hn | assumption, by first | exact hn | assumption, by show (0 : Int) ≤ 0 ∧ 0 ≤ N; omega, fun _ => rfl⟩
theorem w32_id {n : Int} (h : 0 ≤ n ∧ n ≤ 4294967295) : w32 n = n := by
  simp only [w32, IntKind.wrap, IntKind.signed, IntKind.bits]
  simp
  omega
theorem restsP_iff {s : Mv} : restsP s = true ↔ s.on = true ∧ s.c0 = 0 ∧ s.c1 = 0 ∧ s.c2 = 0 := by simp [restsP]
theorem Sv.tick {N : Int} {s : Mv} (h : Sv N s) (hN : N ≤ 1000) : Sv (N + 1) (tickP s) := by
  cases hr : restsP s with
  | false => rw [tickP_f hr]; exact h.mono (by omega)
  | true =>
    rw [tickP_t hr]
    have hi := h.hi
    have e : IntKind.i64.wrap (s.idle + 1) = s.idle + 1 := wrap_i64 (by omega)
    rw [e]
    have := h.mono (M := N + 1) (by omega)
    exact ⟨this.h0, this.h1, this.h2, by show 0 ≤ s.idle + 1 ∧ s.idle + 1 ≤ N + 1; omega, this.on⟩
theorem Sv.free {N d : Int} {s : Mv} (h : Sv N s) (hN : 0 ≤ N) : Sv N (freeP d s) := by
  cases hl : leavesP d s with
  | false => rw [freeP_f hl]; exact h
  | true =>
    rw [freeP_t hl]
    have hr : restsP s = true := by unfold leavesP at hl; simp at hl; exact hl.1
    obtain ⟨h1, h2, h3, h4⟩ := restsP_iff.1 hr
    exact ⟨h.h0, h.h1, h.h2, by show (0 : Int) ≤ 0 ∧ 0 ≤ N; omega, fun hp => by
      exfalso
      have : 0 < s.c0 ∨ 0 < s.c1 ∨ 0 < s.c2 := hp
      omega⟩
structure SOk (N : Int) (ss : List Mv) : Prop where
  len : ss.length = 2
  all : ∀ s ∈ ss, Sv N s
theorem SOk.get {N : Int} {ss : List Mv} (h : SOk N ss) {m : Nat} {s : Mv} (hs : ss[m]? = some s) : Sv N s := h.all s (List.mem_of_getElem? hs)
theorem SOk.mono {N M : Int} {ss : List Mv} (h : SOk N ss) (hm : N ≤ M) : SOk M ss := ⟨h.len, fun s hs => (h.all s hs).mono hm⟩
theorem SOk.set {N : Int} {ss : List Mv} (h : SOk N ss) {m : Nat} {s : Mv} (hs : Sv N s) : SOk N (ss.set m s) :=
  ⟨by rw [List.length_set]; exact h.len, fun s2 h2 => by
    rcases List.mem_or_eq_of_mem_set h2 with h2 | rfl
    · exact h.all s2 h2
    · exact hs⟩
theorem SOk.map {N M : Int} {ss : List Mv} (h : SOk N ss) {f : Mv → Mv} (hf : ∀ s, Sv N s → Sv M (f s)) : SOk M (ss.map f) :=
  ⟨by rw [List.length_map]; exact h.len, fun s hs => by obtain ⟨s0, h1, rfl⟩ := List.mem_map.1 hs; exact hf s0 (h.all s0 h1)⟩
theorem so_start : SOk 0 [mv0, mv0] := ⟨rfl, fun s hs => by
  have : s = mv0 := by simpa using hs
  subst this
  exact ⟨by decide, by decide, by decide, by decide, fun h => absurd h (by decide)⟩⟩
theorem so_count {N : Int} {ss : List Mv} {m k : Nat} {s : Mv} (up : Bool) (h : SOk N ss) (hN : N ≤ 1000) (h0 : 0 ≤ N) (hs : ss[m]? = some s) (hk : k < 3) :
    ∃ e ss2, countP ss m k up = (e, ss2) ∧ SOk (N + 1) ss2 ∧ (e = 0 → ss2 = ss.set m (s.put k (if up then s.c k + 1 else s.c k - 1))) ∧ (e ≠ 0 → ss2 = ss) := by
  have hv := h.get hs
  have hc := hv.c hk
  rw [countP_at hs hk]
  split
  · exact ⟨4, ss, rfl, h.mono (by omega), fun h => absurd h (by decide), fun _ => rfl⟩
  · rename_i hn
    cases up with
    | true =>
      refine ⟨0, _, rfl, (h.mono (by omega)).set ((hv.mono (by omega)).put ?_ k), fun _ => ?_, fun h => absurd rfl h⟩
      · show 0 ≤ w32 (s.c k + 1) ∧ w32 (s.c k + 1) ≤ N + 1
        rw [w32_id (by omega)]; omega
      · show ss.set m (s.put k (w32 (s.c k + 1))) = ss.set m (s.put k (s.c k + 1))
        rw [w32_id (by omega)]
    | false =>
      have hne : s.c k ≠ 0 := fun e => hn (.inr ⟨rfl, e⟩)
      refine ⟨0, _, rfl, (h.mono (by omega)).set ((hv.mono (by omega)).put ?_ k), fun _ => ?_, fun h => absurd rfl h⟩
      · show 0 ≤ w32 (s.c k - 1) ∧ w32 (s.c k - 1) ≤ N + 1
        rw [w32_id (by omega)]; omega
      · show ss.set m (s.put k (w32 (s.c k - 1))) = ss.set m (s.put k (s.c k - 1))
        rw [w32_id (by omega)]
/-! the counts beside -/
def c3 (s : Mv) : List Value := [.int .i64 s.c0, .int .i64 s.c1, .int .i64 s.c2]
def nc (ss : List Mv) : List Value := (ss.map c3).flatten
theorem two_get {ss : List Mv} (h : ss.length = 2) : ∃ a b, ss = [a, b] := by
  match ss, h with
  | [a, b], _ => exact ⟨a, b, rfl⟩
theorem nc_len {ss : List Mv} (h : ss.length = 2) : (nc ss).length = 6 := by obtain ⟨a, b, rfl⟩ := two_get h; rfl
theorem nc_get {ss : List Mv} (h : ss.length = 2) {m k : Nat} {s : Mv} (hs : ss[m]? = some s) (hk : k < 3) : (nc ss)[0 + m * 3 + k * 1]? = some (.int .i64 (s.c k)) := by
  obtain ⟨a, b, rfl⟩ := two_get h
  have hm : m < 2 := (List.getElem?_eq_some_iff.1 hs).1
  match m, hm, k, hk with
  | 0, _, 0, _ => simp at hs; subst hs; rfl
  | 0, _, 1, _ => simp at hs; subst hs; rfl
  | 0, _, 2, _ => simp at hs; subst hs; rfl
  | 1, _, 0, _ => simp at hs; subst hs; rfl
  | 1, _, 1, _ => simp at hs; subst hs; rfl
  | 1, _, 2, _ => simp at hs; subst hs; rfl
theorem nc_take {ss : List Mv} (h : ss.length = 2) {m : Nat} {s : Mv} (hs : ss[m]? = some s) : ((nc ss).drop (0 + m * 3)).take 3 = c3 s := by
  obtain ⟨a, b, rfl⟩ := two_get h
  have hm : m < 2 := (List.getElem?_eq_some_iff.1 hs).1
  match m, hm with
  | 0, _ => simp at hs; subst hs; rfl
  | 1, _ => simp at hs; subst hs; rfl
theorem nc_put {ss : List Mv} (h : ss.length = 2) {m k : Nat} {s : Mv} (hs : ss[m]? = some s) (hk : k < 3) (n : Int) : (nc ss).set (0 + m * 3 + k * 1) (.int .i64 n) = nc (ss.set m (s.put k n)) := by
  obtain ⟨a, b, rfl⟩ := two_get h
  have hm : m < 2 := (List.getElem?_eq_some_iff.1 hs).1
  match m, hm, k, hk with
  | 0, _, 0, _ => simp at hs; subst hs; rfl
  | 0, _, 1, _ => simp at hs; subst hs; rfl
  | 0, _, 2, _ => simp at hs; subst hs; rfl
  | 1, _, 0, _ => simp at hs; subst hs; rfl
  | 1, _, 1, _ => simp at hs; subst hs; rfl
  | 1, _, 2, _ => simp at hs; subst hs; rfl
theorem c3_tick (s : Mv) : c3 (tickP s) = c3 s := by unfold tickP; split <;> rfl
theorem c3_free (d : Int) (s : Mv) : c3 (freeP d s) = c3 s := by unfold freeP; split <;> rfl
theorem nc_tick (ss : List Mv) : nc (ss.map tickP) = nc ss := by unfold nc; rw [List.map_map]; congr 1; exact List.map_congr_left fun s _ => c3_tick s
theorem nc_free (d : Int) (ss : List Mv) : nc (ss.map (freeP d)) = nc ss := by unfold nc; rw [List.map_map]; congr 1; exact List.map_congr_left fun s _ => c3_free d s
theorem eqg_i3 : Try.prog.eqGuardType Try.prog.depth 33 = false := by kernel_rfl
theorem eq_i3 (a b c : Int) : EqR Try.prog 10000 33 (.agg [Value.int .i64 a, .int .i64 b, .int .i64 c].toArray) (.agg [Value.int .i64 0, .int .i64 0, .int .i64 0].toArray) (a = 0 ∧ b = 0 ∧ c = 0) := by
  obtain ⟨i, hi⟩ := info_of_underlying (P := Try.prog) Try.underlying3
  refine (EqR.array (d := 9999) (sz := 1) (p := fun i => [a, b, c][i]? = some 0) Try.underlying33 hi (by kernel_rfl) (fun i hi => ?_)).congr ?_
  · match i, hi with
    | 0, _ => exact ⟨.int .i64 a, .int .i64 0, part_s sc3 rfl, part_s sc3 rfl, (EqR.int (d := 9998) Try.underlying3).congr (by simp)⟩
    | 1, _ => exact ⟨.int .i64 b, .int .i64 0, part_s sc3 rfl, part_s sc3 rfl, (EqR.int (d := 9998) Try.underlying3).congr (by simp)⟩
    | 2, _ => exact ⟨.int .i64 c, .int .i64 0, part_s sc3 rfl, part_s sc3 rfl, (EqR.int (d := 9998) Try.underlying3).congr (by simp)⟩
  · constructor
    · intro h
      simpa using And.intro (h 0 (by decide)) (And.intro (h 1 (by decide)) (h 2 (by decide)))
    · rintro ⟨rfl, rfl, rfl⟩ i hi
      match i, hi with
      | 0, _ => rfl
      | 1, _ => rfl
      | 2, _ => rfl
theorem freedP_mem {d : Int} {ss : List Mv} {n k : Nat} {x : Int} (h : (freedP d ss n)[k]? = some x) : ∃ (i : Nat) (s : Mv), x = (i : Int) ∧ ss[i]? = some s ∧ restsP s = true := by
  have hm := List.mem_of_getElem? h
  unfold freedP at hm
  obtain ⟨i, hi, rfl⟩ := List.mem_map.1 hm
  rw [List.mem_filter] at hi
  cases hs : ss[i]? with
  | none => rw [hs] at hi; simp at hi
  | some s =>
    rw [hs] at hi
    refine ⟨i, s, rfl, hs, ?_⟩
    have := hi.2
    simp only [Option.any_some, leavesP, Bool.and_eq_true] at this
    exact this.1
/-! counted down -/
def Zs (s : Mv) : Prop := s.c0 = 0 ∧ s.c1 = 0 ∧ s.c2 = 0
/-- Ahead of (m, k) all is nothing. -/
structure Zm (m k : Nat) (ss : List Mv) : Prop where
  lo : ∀ (j : Nat) s, j < m → ss[j]? = some s → Zs s
  at_ : ∀ s, ss[m]? = some s → ∀ q, q < k → s.c q = 0
theorem Zm.zero (ss : List Mv) : Zm 0 0 ss := ⟨fun j s hj => absurd hj (Nat.not_lt_zero j), fun s _ q hq => absurd hq (Nat.not_lt_zero q)⟩
theorem Zm.next {m : Nat} {ss : List Mv} (h : Zm m 3 ss) : Zm (m + 1) 0 ss :=
  ⟨fun j s hj hs => by
    rcases Nat.lt_succ_iff_lt_or_eq.1 hj with h1 | rfl
    · exact h.lo j s h1 hs
    · exact ⟨h.at_ s hs 0 (by decide), h.at_ s hs 1 (by decide), h.at_ s hs 2 (by decide)⟩, fun s _ q hq => absurd hq (Nat.not_lt_zero q)⟩
theorem Zm.step {m k : Nat} {ss : List Mv} {s : Mv} (h : Zm m k ss) (hs : ss[m]? = some s) (h0 : s.c k = 0) : Zm m (k + 1) ss :=
  ⟨h.lo, fun s2 hs2 q hq => by
    rw [hs] at hs2
    obtain rfl := Option.some.inj hs2
    rcases Nat.lt_succ_iff_lt_or_eq.1 hq with h1 | rfl
    · exact h.at_ s hs q h1
    · exact h0⟩
theorem put_c (s : Mv) (n : Int) {k q : Nat} (hk : k < 3) (hq : q < k) : (s.put k n).c q = s.c q := by
  match k, hk, q, hq with
  | 1, _, 0, _ => rfl
  | 2, _, 0, _ => rfl
  | 2, _, 1, _ => rfl
theorem put_self (s : Mv) (n : Int) {k : Nat} (hk : k < 3) : (s.put k n).c k = n := by
  match k, hk with
  | 0, _ => rfl
  | 1, _ => rfl
  | 2, _ => rfl
theorem Zm.put {m k : Nat} {ss : List Mv} {s : Mv} (h : Zm m k ss) (hs : ss[m]? = some s) (hk : k < 3) (n : Int) : Zm m k (ss.set m (s.put k n)) := by
  have hlt := (List.getElem?_eq_some_iff.1 hs).1
  refine ⟨fun j s2 hj hs2 => ?_, fun s2 hs2 q hq => ?_⟩
  · rw [List.getElem?_set_ne (by omega)] at hs2; exact h.lo j s2 hj hs2
  · rw [List.getElem?_set_self hlt] at hs2
    obtain rfl := Option.some.inj hs2
    rw [put_c s n hk hq]; exact h.at_ s hs q hq
theorem Zm.all {ss : List Mv} (hl : ss.length = 2) (h : Zm 2 0 ss) : ∀ s ∈ ss, Zs s := fun s hs => by
  obtain ⟨i, hi⟩ := List.getElem?_of_mem hs
  exact h.lo i s (by have := (List.getElem?_eq_some_iff.1 hi).1; omega) hi
theorem loadedP_at {ss : List Mv} {m : Nat} {s : Mv} (h : ss[m]? = some s) : loadedP ss (m : Int) = s.on := by
  unfold loadedP getS
  rw [if_neg (by omega), Int.toNat_natCast, h]; rfl
/-- Behind so many ticks. -/
structure Tk (i : Nat) (s : Mv) : Prop where
  z : Zs s
  on : s.on = true → (i : Int) ≤ s.idle
  hi : 0 ≤ s.idle ∧ s.idle ≤ 300 + i
theorem Tk.start {ss : List Mv} (h : SOk 200 ss) (hz : ∀ s ∈ ss, Zs s) : ∀ s ∈ ss, Tk 0 s := fun s hs => by
  have hi := (h.all s hs).hi
  exact ⟨hz s hs, fun _ => hi.1, by omega⟩
theorem Tk.tick {i : Nat} {s : Mv} (h : Tk i s) (h9 : i < 9) : Tk (i + 1) (tickP s) := by
  have hi := h.hi
  cases hr : restsP s with
  | true =>
    have hon := h.on (restsP_iff.1 hr).1
    have e : IntKind.i64.wrap (s.idle + 1) = s.idle + 1 := wrap_i64 (by omega)
    rw [tickP_t hr, e]
    exact ⟨h.z, fun _ => by show ((i + 1 : Nat) : Int) ≤ s.idle + 1; omega, by show 0 ≤ s.idle + 1 ∧ s.idle + 1 ≤ 300 + ((i + 1 : Nat) : Int); omega⟩
  | false =>
    rw [tickP_f hr]
    refine ⟨h.z, fun hon => ?_, by omega⟩
    exfalso
    rw [restsP_iff.2 ⟨hon, h.z⟩] at hr
    cases hr
theorem Tk.free {d : Nat} {s : Mv} (h : Tk d s) : (freeP (d : Int) s).on = false := by
  cases hon : s.on with
  | false =>
    have : leavesP (d : Int) s = false := by simp [leavesP, restsP, hon]
    rw [freeP_f this]; exact hon
  | true =>
    have h1 := h.on hon
    have : leavesP (d : Int) s = true := by
      unfold leavesP
      rw [restsP_iff.2 ⟨hon, h.z⟩]
      simpa using h1
    rw [freeP_t this]
theorem gone {d : Nat} {ss : List Mv} (h : ∀ s ∈ ss, Tk d s) (i : Int) : loadedP (ss.map (freeP (d : Int))) i = false := by
  unfold loadedP getS
  split
  · rfl
  · rw [List.getElem?_map]
    cases hs : ss[i.toNat]? with
    | none => rfl
    | some s => exact (h s (List.mem_of_getElem? hs)).free
end Go.Proofs.Ytnebpklmbefmfaa

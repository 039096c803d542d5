/- The walk of FacesLines. -/
import Derived.Test.YtjaibkfmkhfjfaaA6
set_option linter.unusedVariables false
set_option linter.unusedSimpArgs false
namespace Go.Proofs.Ytjaibkfmkhfjfaa
open Go.RowKit
attribute [local irreducible] X RL W Ctr
theorem w_lines (fs : List Face) (hok : ∀ f ∈ fs, FaceOk f) (hmax : fs.length ≤ 9223372036854775807) (A : Option Addr) (c : Nat) (hcap : fs.length ≤ c) (w : World) (hrd : Rd w A (fcells fs)) (i stop : Int) :
    Ctr Try.prog 4 [.slice A fs.length c, .int .i64 i, .int .i64 stop] w [] fun v _ => v = .bool true := by
  have hrd1 := hrd
  obtain ⟨bb, oo, hA0, hc⟩ := hrd
  have hA : 0 < fs.length → A = some ⟨bb, oo, none⟩ := fun h => hA0 (by rw [fcells_len hok]; omega)
  refine Ctr.intro0 (n := 52) Try.func4 rfl Try.ntmps4 (Nat.le_of_ble_eq_true rfl) ?_
  refine X.seq ?_
  refine X.region rfl ?_
  refine RL.assign rfl ?_
  refine RL.nil ?_
  refine X.seq ?_
  refine X.seq ?_
  refine X.region rfl ?_
  refine RL.move rfl ?_
  rcases Nat.lt_or_ge 60 fs.length with hg | hg
  · refine RL.fn0 rfl rfl rfl en9 (fun w hw => (f_great A fs.length c w hmax).toT hg) rfl ?_
    rintro _ _ rfl
    refine RL.nil ?_
    refine X.cond_t rfl ?_
    refine X.seq ?_
    refine X.region rfl ?_
    refine RL.fn0 rfl rfl rfl en10 (fun w hw => (f_awake w)) rfl ?_
    rintro _ _ rfl
    refine RL.assign rfl ?_
    refine RL.nil ?_
    refine X.ret ?_
    refine ret1 rfl ?_
    show (_ : Value) = _
    rfl
  · have hlen : fs.length ≤ 1000 := by omega
    have hll := lineP_len fs i
    refine RL.fn0 rfl rfl rfl en9 (fun w hw => (f_great A fs.length c w hmax).toF (by omega)) rfl ?_
    rintro _ _ rfl
    refine RL.nil ?_
    refine X.cond_f rfl ?_
    refine X.skip ?_
    refine X.seq ?_
    refine X.region rfl ?_
    refine RL.move rfl ?_
    refine RL.move rfl ?_
    refine RL.fn0 rfl rfl rfl en13 (fun w hw => (f_rline fs hok hlen A c w (hrd1.st0 hw) i)) rfl ?_
    rintro _ _ ⟨L1, L2, rfl, A2, cp2, rfl, hrow⟩
    refine RL.assign rfl ?_
    refine RL.nil ?_
    refine X.seq ?_
    refine X.region rfl ?_
    refine RL.move rfl ?_
    refine RL.move rfl ?_
    refine RL.len rfl sl22 rfl ?_
    refine RL.fn0 rfl rfl rfl en14 (fun w hw => (f_pick i fs.length w (by omega) (by omega)).mono (fun v L h => (⟨_, h⟩ : ∃ q : Int, v = .int .i64 q))) rfl ?_
    rintro _ _ ⟨q, rfl⟩
    refine RL.assign rfl ?_
    refine RL.nil ?_
    refine X.seq ?_
    refine X.region rfl ?_
    refine RL.move rfl ?_
    refine RL.move rfl ?_
    refine RL.len rfl sl32 rfl ?_
    refine RL.add rfl rfl rfl (by omega) ?_
    refine RL.fn0 rfl rfl rfl en14 (fun w hw => (f_pick stop (((lineP fs i).length : Int) + 1) w (by omega) (by omega)).mono (fun v L h => (by obtain ⟨q2, h1, h2⟩ := pick_some (x := stop) (n := (lineP fs i).length + 1) (by omega); exact ⟨q2, by rw [h, show (((lineP fs i).length : Int) + 1) = (((lineP fs i).length + 1 : Nat) : Int) by omega, h1], h2⟩ : ∃ k : Nat, v = .int .i64 (k : Int) ∧ k < (lineP fs i).length + 1))) rfl ?_
    rintro _ _ ⟨k, rfl, hk⟩
    refine RL.assign rfl ?_
    refine RL.nil ?_
    refine X.seq ?_
    refine X.any [.val (.slice A fs.length c), .val (.int .i64 i), rowF (lineP fs i), .val (.slice A2 (lineP fs i).length cp2), .val (.bool true), .val (.bool true), .val (.slice A fs.length c), .val (.int .i64 i), .val (.int .i64 (k : Int)), rowF ((lineP fs i).take k), .val (.slice A2 (lineP fs i).length cp2), .val (.int .i64 (k : Int)), .val (.slice A2 ((lineP fs i).take k).length cp2), .val (.bool true), .val (.bool true), .val (.bool true), .val (.slice A fs.length c), .val (.int .i64 q), rowF (lineP fs q), .val (.slice A fs.length c), .val (.int .i64 q), rowF (lineP fs q), .val (.bool true), .val (.bool true), .val (.bool true), .val (.bool true), .val (.bool true), .val (.bool true)] rfl (by kernel_rfl) (by kernel_rfl) (by kernel_rfl) ⟨?_, ?_, ?_, ?_, ?_, ?_, ?_, ?_, ?_, ?_, ?_, ?_, ?_, ?_, ?_, ?_, ?_, ?_, ?_, ?_, ?_, ?_, ?_, ?_, ?_, ?_, ?_, ?_, trivial⟩ ?_
    · intro ρ L hF hfix hold hL
      have u0 : ρ 0 = .slice A fs.length c := hfix 0 (by decide)
      obtain ⟨base, rfl⟩ := Has.base (ρ := ρ) (l := [(0, .slice A fs.length c)]) ⟨u0, trivial⟩
      refine RL.move rfl ?_
      refine RL.nil ?_
      exact ⟨rfl, ⟨_, rfl, rfl⟩, fun p hp => hp⟩
    · intro ρ L hF hfix hold hL
      have u1 : ρ 1 = .int .i64 i := hfix 1 (by decide)
      obtain ⟨base, rfl⟩ := Has.base (ρ := ρ) (l := [(1, .int .i64 i)]) ⟨u1, trivial⟩
      refine RL.move rfl ?_
      refine RL.nil ?_
      exact ⟨rfl, ⟨_, rfl, rfl⟩, fun p hp => hp⟩
    · intro ρ L hF hfix hold hL
      have u25 : ρ 25 = .slice A fs.length c := hF ⟨0, Ground.data⟩ (by simp) rfl _ _ rfl rfl
      have u26 : ρ 26 = .int .i64 i := hF ⟨1, Ground.data⟩ (by simp) rfl _ _ rfl rfl
      obtain ⟨base, rfl⟩ := Has.base (ρ := ρ) (l := [(25, .slice A fs.length c), (26, .int .i64 i)]) ⟨u25, u26, trivial⟩
      skip
      refine RL.fn0 rfl rfl rfl en16 (fun w hw => (f_lline fs hok hlen A c w (hrd1.st0 hw) (i) 99).mono (fun v L h => (by rw [List.take_of_length_le (by have := lineP_len fs (i); omega)] at h; exact h : SRow v (lineP fs (i)) L))) rfl ?_
      rintro _ _ ⟨L1, hs, A1, cp1, rfl, hrow⟩
      refine RL.nil ?_
      exact ⟨rfl, ⟨_, rfl, ⟨L1, fun p hp => List.mem_append_left _ (hs.subset hp), A1, cp1, rfl, hrow⟩⟩, fun p hp => List.mem_append_right _ hp⟩
    · intro ρ L hF hfix hold hL
      have u7 : ρ 7 = .slice A2 (lineP fs i).length cp2 := hfix 7 (by decide)
      obtain ⟨base, rfl⟩ := Has.base (ρ := ρ) (l := [(7, .slice A2 (lineP fs i).length cp2)]) ⟨u7, trivial⟩
      refine RL.move rfl ?_
      refine RL.nil ?_
      exact ⟨rfl, ⟨_, rfl, rfl⟩, fun p hp => hp⟩
    · intro ρ L hF hfix hold hL
      obtain ⟨L27, hs27, A27, cp27, u27, r27⟩ := hF ⟨2, Ground.data⟩ (by simp) rfl _ _ rfl rfl
      have u28 : ρ 28 = .slice A2 (lineP fs i).length cp2 := hF ⟨3, Ground.data⟩ (by simp) rfl _ _ rfl rfl
      obtain ⟨base, rfl⟩ := Has.base (ρ := ρ) (l := [(27, .slice A27 (lineP fs i : List Int).length cp27), (28, .slice A2 (lineP fs i).length cp2)]) ⟨u27, u28, trivial⟩
      refine RL.fn0 rfl rfl rfl en15 (fun w hw => (f_same (lineP fs i) (lineP fs i) A27 A2 cp27 cp2 w (by have := lineP_len fs i; have := lineP_len fs q; first | omega | (rw [List.length_take]; omega)) (by have := lineP_len fs i; have := lineP_len fs q; first | omega | (rw [List.length_take]; omega)) (row_rd r27 hw (fun p hp => by simp [hs27 p hp])) (row_rd hrow hw (fun p hp => hL p (by simp [hp])))).mono (fun v L h => (by rw [h, decide_eq_true rfl] : v = .bool true))) rfl ?_
      rintro _ _ rfl
      refine RL.nil ?_
      exact ⟨rfl, ⟨_, rfl, rfl⟩, fun p hp => List.mem_append_right _ hp⟩
    · intro ρ L hF hfix hold hL
      have u29 : ρ 29 = .bool true := hF ⟨4, Ground.data⟩ (by simp) rfl _ _ rfl rfl
      obtain ⟨base, rfl⟩ := Has.base (ρ := ρ) (l := [(29, .bool true)]) ⟨u29, trivial⟩
      refine RL.move rfl ?_
      refine RL.nil ?_
      exact ⟨rfl, ⟨_, rfl, rfl⟩, fun p hp => hp⟩
    · intro ρ L hF hfix hold hL
      have u30 : ρ 30 = .bool true := hF ⟨5, Ground.guard⟩ (by simp) rfl _ _ rfl rfl
      have u0 : ρ 0 = .slice A fs.length c := hfix 0 (by decide)
      obtain ⟨base, rfl⟩ := Has.base (ρ := ρ) (l := [(30, .bool true), (0, .slice A fs.length c)]) ⟨u30, u0, trivial⟩
      refine RL.move rfl ?_
      refine RL.nil ?_
      exact ⟨rfl, ⟨_, rfl, rfl⟩, fun p hp => hp⟩
    · intro ρ L hF hfix hold hL
      have u30 : ρ 30 = .bool true := hF ⟨5, Ground.guard⟩ (by simp) rfl _ _ rfl rfl
      have u1 : ρ 1 = .int .i64 i := hfix 1 (by decide)
      obtain ⟨base, rfl⟩ := Has.base (ρ := ρ) (l := [(30, .bool true), (1, .int .i64 i)]) ⟨u30, u1, trivial⟩
      refine RL.move rfl ?_
      refine RL.nil ?_
      exact ⟨rfl, ⟨_, rfl, rfl⟩, fun p hp => hp⟩
    · intro ρ L hF hfix hold hL
      have u30 : ρ 30 = .bool true := hF ⟨5, Ground.guard⟩ (by simp) rfl _ _ rfl rfl
      have u9 : ρ 9 = .int .i64 (k : Int) := hfix 9 (by decide)
      obtain ⟨base, rfl⟩ := Has.base (ρ := ρ) (l := [(30, .bool true), (9, .int .i64 (k : Int))]) ⟨u30, u9, trivial⟩
      refine RL.move rfl ?_
      refine RL.nil ?_
      exact ⟨rfl, ⟨_, rfl, rfl⟩, fun p hp => hp⟩
    · intro ρ L hF hfix hold hL
      have u30 : ρ 30 = .bool true := hF ⟨5, Ground.chain⟩ (by simp) rfl _ _ rfl rfl
      have u31 : ρ 31 = .slice A fs.length c := hF ⟨6, Ground.data⟩ (by simp) rfl _ _ rfl rfl
      have u32 : ρ 32 = .int .i64 i := hF ⟨7, Ground.data⟩ (by simp) rfl _ _ rfl rfl
      have u33 : ρ 33 = .int .i64 (k : Int) := hF ⟨8, Ground.data⟩ (by simp) rfl _ _ rfl rfl
      obtain ⟨base, rfl⟩ := Has.base (ρ := ρ) (l := [(30, .bool true), (31, .slice A fs.length c), (32, .int .i64 i), (33, .int .i64 (k : Int))]) ⟨u30, u31, u32, u33, trivial⟩
      skip
      refine RL.fn0 rfl rfl rfl en16 (fun w hw => (f_lline fs hok hlen A c w (hrd1.st0 hw) i k)) rfl ?_
      rintro _ _ ⟨L1, hs, A1, cp1, rfl, hrow⟩
      refine RL.nil ?_
      exact ⟨rfl, ⟨_, rfl, ⟨L1, fun p hp => List.mem_append_left _ (hs.subset hp), A1, cp1, rfl, hrow⟩⟩, fun p hp => List.mem_append_right _ hp⟩
    · intro ρ L hF hfix hold hL
      have u30 : ρ 30 = .bool true := hF ⟨5, Ground.guard⟩ (by simp) rfl _ _ rfl rfl
      have u7 : ρ 7 = .slice A2 (lineP fs i).length cp2 := hfix 7 (by decide)
      obtain ⟨base, rfl⟩ := Has.base (ρ := ρ) (l := [(30, .bool true), (7, .slice A2 (lineP fs i).length cp2)]) ⟨u30, u7, trivial⟩
      refine RL.move rfl ?_
      refine RL.nil ?_
      exact ⟨rfl, ⟨_, rfl, rfl⟩, fun p hp => hp⟩
    · intro ρ L hF hfix hold hL
      have u30 : ρ 30 = .bool true := hF ⟨5, Ground.guard⟩ (by simp) rfl _ _ rfl rfl
      have u9 : ρ 9 = .int .i64 (k : Int) := hfix 9 (by decide)
      obtain ⟨base, rfl⟩ := Has.base (ρ := ρ) (l := [(30, .bool true), (9, .int .i64 (k : Int))]) ⟨u30, u9, trivial⟩
      refine RL.move rfl ?_
      refine RL.nil ?_
      exact ⟨rfl, ⟨_, rfl, rfl⟩, fun p hp => hp⟩
    · intro ρ L hF hfix hold hL
      have u30 : ρ 30 = .bool true := hF ⟨5, Ground.guard⟩ (by simp) rfl _ _ rfl rfl
      have u35 : ρ 35 = .slice A2 (lineP fs i).length cp2 := hF ⟨10, Ground.data⟩ (by simp) rfl _ _ rfl rfl
      have u36 : ρ 36 = .int .i64 (k : Int) := hF ⟨11, Ground.data⟩ (by simp) rfl _ _ rfl rfl
      obtain ⟨base, rfl⟩ := Has.base (ρ := ρ) (l := [(30, .bool true), (35, .slice A2 (lineP fs i).length cp2), (36, .int .i64 (k : Int))]) ⟨u30, u35, u36, trivial⟩
      have hcp : (lineP fs i).length ≤ cp2 := (hrow.slice (by decide)).elim (fun _ h => by obtain ⟨m2, c2, e1, e2, e3, e4⟩ := h; cases e1; exact e3)
      refine RL.sliceHi (j := ((lineP fs i).take k).length) rfl sl32 rfl rfl (by rw [List.length_take]; omega) (by rw [List.length_take]; omega) ?_
      rw [hrow.hi]
      refine RL.nil ?_
      exact ⟨rfl, ⟨_, rfl, rfl⟩, fun p hp => hp⟩
    · intro ρ L hF hfix hold hL
      have u30 : ρ 30 = .bool true := hF ⟨5, Ground.guard⟩ (by simp) rfl _ _ rfl rfl
      obtain ⟨L34, hs34, A34, cp34, u34, r34⟩ := hF ⟨9, Ground.data⟩ (by simp) rfl _ _ rfl rfl
      have u37 : ρ 37 = .slice A2 ((lineP fs i).take k).length cp2 := hF ⟨12, Ground.data⟩ (by simp) rfl _ _ rfl rfl
      obtain ⟨base, rfl⟩ := Has.base (ρ := ρ) (l := [(30, .bool true), (34, .slice A34 ((lineP fs i).take k : List Int).length cp34), (37, .slice A2 ((lineP fs i).take k).length cp2)]) ⟨u30, u34, u37, trivial⟩
      refine RL.fn0 rfl rfl rfl en15 (fun w hw => (f_same ((lineP fs i).take k) ((lineP fs i).take k) A34 A2 cp34 cp2 w (by have := lineP_len fs i; have := lineP_len fs q; first | omega | (rw [List.length_take]; omega)) (by have := lineP_len fs i; have := lineP_len fs q; first | omega | (rw [List.length_take]; omega)) (row_rd r34 hw (fun p hp => by simp [hs34 p hp])) (rd_takeI (row_rd hrow hw (fun p hp => hL p (by simp [hp]))))).mono (fun v L h => (by rw [h, decide_eq_true rfl] : v = .bool true))) rfl ?_
      rintro _ _ rfl
      refine RL.nil ?_
      exact ⟨rfl, ⟨_, rfl, rfl⟩, fun p hp => List.mem_append_right _ hp⟩
    · intro ρ L hF hfix hold hL
      have u30 : ρ 30 = .bool true := hF ⟨5, Ground.data⟩ (by simp) rfl _ _ rfl rfl
      have u38 : ρ 38 = .bool true := hF ⟨13, Ground.data⟩ (by simp) rfl _ _ rfl rfl
      obtain ⟨base, rfl⟩ := Has.base (ρ := ρ) (l := [(30, .bool true), (38, .bool true)]) ⟨u30, u38, trivial⟩
      refine RL.pick_t rfl rfl ?_
      refine RL.nil ?_
      exact ⟨rfl, ⟨_, rfl, rfl⟩, fun p hp => hp⟩
    · intro ρ L hF hfix hold hL
      have u39 : ρ 39 = .bool true := hF ⟨14, Ground.data⟩ (by simp) rfl _ _ rfl rfl
      obtain ⟨base, rfl⟩ := Has.base (ρ := ρ) (l := [(39, .bool true)]) ⟨u39, trivial⟩
      refine RL.move rfl ?_
      refine RL.nil ?_
      exact ⟨rfl, ⟨_, rfl, rfl⟩, fun p hp => hp⟩
    · intro ρ L hF hfix hold hL
      have u40 : ρ 40 = .bool true := hF ⟨15, Ground.guard⟩ (by simp) rfl _ _ rfl rfl
      have u0 : ρ 0 = .slice A fs.length c := hfix 0 (by decide)
      obtain ⟨base, rfl⟩ := Has.base (ρ := ρ) (l := [(40, .bool true), (0, .slice A fs.length c)]) ⟨u40, u0, trivial⟩
      refine RL.move rfl ?_
      refine RL.nil ?_
      exact ⟨rfl, ⟨_, rfl, rfl⟩, fun p hp => hp⟩
    · intro ρ L hF hfix hold hL
      have u40 : ρ 40 = .bool true := hF ⟨15, Ground.guard⟩ (by simp) rfl _ _ rfl rfl
      have u8 : ρ 8 = .int .i64 q := hfix 8 (by decide)
      obtain ⟨base, rfl⟩ := Has.base (ρ := ρ) (l := [(40, .bool true), (8, .int .i64 q)]) ⟨u40, u8, trivial⟩
      refine RL.move rfl ?_
      refine RL.nil ?_
      exact ⟨rfl, ⟨_, rfl, rfl⟩, fun p hp => hp⟩
    · intro ρ L hF hfix hold hL
      have u40 : ρ 40 = .bool true := hF ⟨15, Ground.chain⟩ (by simp) rfl _ _ rfl rfl
      have u41 : ρ 41 = .slice A fs.length c := hF ⟨16, Ground.data⟩ (by simp) rfl _ _ rfl rfl
      have u42 : ρ 42 = .int .i64 q := hF ⟨17, Ground.data⟩ (by simp) rfl _ _ rfl rfl
      obtain ⟨base, rfl⟩ := Has.base (ρ := ρ) (l := [(40, .bool true), (41, .slice A fs.length c), (42, .int .i64 q)]) ⟨u40, u41, u42, trivial⟩
      skip
      refine RL.fn0 rfl rfl rfl en16 (fun w hw => (f_lline fs hok hlen A c w (hrd1.st0 hw) (q) 99).mono (fun v L h => (by rw [List.take_of_length_le (by have := lineP_len fs (q); omega)] at h; exact h : SRow v (lineP fs (q)) L))) rfl ?_
      rintro _ _ ⟨L1, hs, A1, cp1, rfl, hrow⟩
      refine RL.nil ?_
      exact ⟨rfl, ⟨_, rfl, ⟨L1, fun p hp => List.mem_append_left _ (hs.subset hp), A1, cp1, rfl, hrow⟩⟩, fun p hp => List.mem_append_right _ hp⟩
    · intro ρ L hF hfix hold hL
      have u40 : ρ 40 = .bool true := hF ⟨15, Ground.guard⟩ (by simp) rfl _ _ rfl rfl
      have u0 : ρ 0 = .slice A fs.length c := hfix 0 (by decide)
      obtain ⟨base, rfl⟩ := Has.base (ρ := ρ) (l := [(40, .bool true), (0, .slice A fs.length c)]) ⟨u40, u0, trivial⟩
      refine RL.move rfl ?_
      refine RL.nil ?_
      exact ⟨rfl, ⟨_, rfl, rfl⟩, fun p hp => hp⟩
    · intro ρ L hF hfix hold hL
      have u40 : ρ 40 = .bool true := hF ⟨15, Ground.guard⟩ (by simp) rfl _ _ rfl rfl
      have u8 : ρ 8 = .int .i64 q := hfix 8 (by decide)
      obtain ⟨base, rfl⟩ := Has.base (ρ := ρ) (l := [(40, .bool true), (8, .int .i64 q)]) ⟨u40, u8, trivial⟩
      refine RL.move rfl ?_
      refine RL.nil ?_
      exact ⟨rfl, ⟨_, rfl, rfl⟩, fun p hp => hp⟩
    · intro ρ L hF hfix hold hL
      have u40 : ρ 40 = .bool true := hF ⟨15, Ground.guard⟩ (by simp) rfl _ _ rfl rfl
      have u44 : ρ 44 = .slice A fs.length c := hF ⟨19, Ground.data⟩ (by simp) rfl _ _ rfl rfl
      have u45 : ρ 45 = .int .i64 q := hF ⟨20, Ground.data⟩ (by simp) rfl _ _ rfl rfl
      obtain ⟨base, rfl⟩ := Has.base (ρ := ρ) (l := [(40, .bool true), (44, .slice A fs.length c), (45, .int .i64 q)]) ⟨u40, u44, u45, trivial⟩
      skip
      refine RL.fn0 rfl rfl rfl en13 (fun w hw => (f_rline fs hok hlen A c w (hrd1.st0 hw) q).mono (fun v L h => srow_of h)) rfl ?_
      rintro _ _ ⟨L1, hs, A1, cp1, rfl, hrow⟩
      refine RL.nil ?_
      exact ⟨rfl, ⟨_, rfl, ⟨L1, fun p hp => List.mem_append_left _ (hs.subset hp), A1, cp1, rfl, hrow⟩⟩, fun p hp => List.mem_append_right _ hp⟩
    · intro ρ L hF hfix hold hL
      have u40 : ρ 40 = .bool true := hF ⟨15, Ground.guard⟩ (by simp) rfl _ _ rfl rfl
      obtain ⟨L43, hs43, A43, cp43, u43, r43⟩ := hF ⟨18, Ground.data⟩ (by simp) rfl _ _ rfl rfl
      obtain ⟨L46, hs46, A46, cp46, u46, r46⟩ := hF ⟨21, Ground.data⟩ (by simp) rfl _ _ rfl rfl
      obtain ⟨base, rfl⟩ := Has.base (ρ := ρ) (l := [(40, .bool true), (43, .slice A43 (lineP fs q : List Int).length cp43), (46, .slice A46 (lineP fs q : List Int).length cp46)]) ⟨u40, u43, u46, trivial⟩
      refine RL.fn0 rfl rfl rfl en15 (fun w hw => (f_same (lineP fs q) (lineP fs q) A43 A46 cp43 cp46 w (by have := lineP_len fs i; have := lineP_len fs q; first | omega | (rw [List.length_take]; omega)) (by have := lineP_len fs i; have := lineP_len fs q; first | omega | (rw [List.length_take]; omega)) (row_rd r43 hw (fun p hp => by simp [hs43 p hp])) (row_rd r46 hw (fun p hp => by simp [hs46 p hp]))).mono (fun v L h => (by rw [h, decide_eq_true rfl] : v = .bool true))) rfl ?_
      rintro _ _ rfl
      refine RL.nil ?_
      exact ⟨rfl, ⟨_, rfl, rfl⟩, fun p hp => List.mem_append_right _ hp⟩
    · intro ρ L hF hfix hold hL
      have u40 : ρ 40 = .bool true := hF ⟨15, Ground.data⟩ (by simp) rfl _ _ rfl rfl
      have u47 : ρ 47 = .bool true := hF ⟨22, Ground.data⟩ (by simp) rfl _ _ rfl rfl
      obtain ⟨base, rfl⟩ := Has.base (ρ := ρ) (l := [(40, .bool true), (47, .bool true)]) ⟨u40, u47, trivial⟩
      refine RL.pick_t rfl rfl ?_
      refine RL.nil ?_
      exact ⟨rfl, ⟨_, rfl, rfl⟩, fun p hp => hp⟩
    · intro ρ L hF hfix hold hL
      have u48 : ρ 48 = .bool true := hF ⟨23, Ground.data⟩ (by simp) rfl _ _ rfl rfl
      obtain ⟨base, rfl⟩ := Has.base (ρ := ρ) (l := [(48, .bool true)]) ⟨u48, trivial⟩
      refine RL.move rfl ?_
      refine RL.nil ?_
      exact ⟨rfl, ⟨_, rfl, rfl⟩, fun p hp => hp⟩
    · intro ρ L hF hfix hold hL
      have u49 : ρ 49 = .bool true := hF ⟨24, Ground.chain⟩ (by simp) rfl _ _ rfl rfl
      obtain ⟨base, rfl⟩ := Has.base (ρ := ρ) (l := [(49, .bool true)]) ⟨u49, trivial⟩
      refine RL.fn0 rfl rfl rfl en10 (fun w hw => (f_awake w)) rfl ?_
      rintro _ _ rfl
      refine RL.nil ?_
      exact ⟨rfl, ⟨_, rfl, rfl⟩, fun p hp => List.mem_append_right _ hp⟩
    · intro ρ L hF hfix hold hL
      have u49 : ρ 49 = .bool true := hF ⟨24, Ground.data⟩ (by simp) rfl _ _ rfl rfl
      have u50 : ρ 50 = .bool true := hF ⟨25, Ground.data⟩ (by simp) rfl _ _ rfl rfl
      obtain ⟨base, rfl⟩ := Has.base (ρ := ρ) (l := [(49, .bool true), (50, .bool true)]) ⟨u49, u50, trivial⟩
      refine RL.pick_t rfl rfl ?_
      refine RL.nil ?_
      exact ⟨rfl, ⟨_, rfl, rfl⟩, fun p hp => hp⟩
    · intro ρ L hF hfix hold hL
      have u51 : ρ 51 = .bool true := hF ⟨26, Ground.data⟩ (by simp) rfl _ _ rfl rfl
      obtain ⟨base, rfl⟩ := Has.base (ρ := ρ) (l := [(51, .bool true)]) ⟨u51, trivial⟩
      refine RL.assign rfl ?_
      refine RL.nil ?_
      exact ⟨rfl, ⟨_, rfl, rfl⟩, fun p hp => hp⟩
    · intro ρ L hT hfix hL
      have u6 : ρ 6 = .bool true := hT 27 _ _ rfl rfl
      obtain ⟨base, rfl⟩ := Has.base (ρ := ρ) (l := [(6, .bool true)]) ⟨u6, trivial⟩
      refine X.ret ?_
      refine ret1 rfl ?_
      show (_ : Value) = _
      rfl
end Go.Proofs.Ytjaibkfmkhfjfaa

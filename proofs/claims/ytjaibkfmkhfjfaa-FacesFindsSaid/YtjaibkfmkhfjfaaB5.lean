/- The walk of FacesFinds. -/
import Derived.Test.YtjaibkfmkhfjfaaA8
set_option linter.unusedVariables false
set_option linter.unusedSimpArgs false
namespace Go.Proofs.Ytjaibkfmkhfjfaa
open Go.RowKit
attribute [local irreducible] X RL W Ctr
theorem w_finds (fs : List Face) (hok : ∀ f ∈ fs, FaceOk f) (hmax : fs.length ≤ 9223372036854775807) (A : Option Addr) (c : Nat) (hcap : fs.length ≤ c) (w : World) (hrd : Rd w A (fcells fs)) (id : List Int) (hid : id.length = 16) :
    Ctr Try.prog 8 [.slice A fs.length c, .agg (gcells id).toArray] w [] fun v _ => v = .bool true := by
  have hrd1 := hrd
  obtain ⟨bb, oo, hA0, hc⟩ := hrd
  have hA : 0 < fs.length → A = some ⟨bb, oo, none⟩ := fun h => hA0 (by rw [fcells_len hok]; omega)
  refine Ctr.intro0 (n := 53) Try.func8 rfl Try.ntmps8 (Nat.le_of_ble_eq_true rfl) ?_
  refine X.seq ?_
  refine X.region rfl ?_
  refine RL.boxA rfl rfl rfl ?_
  intro b1 hb1
  dsimp only at hb1
  refine RL.assign rfl ?_
  refine RL.nil ?_
  refine X.seq ?_
  refine X.seq ?_
  refine X.region rfl ?_
  refine RL.move rfl ?_
  rcases Nat.lt_or_ge 60 fs.length with hg | hg
  · refine RL.fn0 rfl rfl rfl en9 (fun w hw => (f_great A fs.length c w hmax).toT hg) rfl ?_
    rintro _ _ rfl
    refine RL.nil ?_
    refine X.cond_t rfl ?_
    refine X.seq ?_
    refine X.region rfl ?_
    refine RL.fn0 rfl rfl rfl en10 (fun w hw => (f_awake w)) rfl ?_
    rintro _ _ rfl
    refine RL.assign rfl ?_
    refine RL.nil ?_
    refine X.ret ?_
    refine ret1 rfl ?_
    show (_ : Value) = _
    rfl
  · have hlen : fs.length ≤ 1000 := by omega
    rcases hfd : findP fs id with _ | n
    · refine RL.fn0 rfl rfl rfl en9 (fun w hw => (f_great A fs.length c w hmax).toF (by omega)) rfl ?_
      rintro _ _ rfl
      refine RL.nil ?_
      refine X.cond_f rfl ?_
      refine X.skip ?_
      refine X.seq ?_
      refine X.region rfl ?_
      refine RL.move rfl ?_
      refine RL.loadOA rfl ag28 rfl (take_all (gcells_length hid)) (gcells_length hid) ?_
      refine RL.fn0 rfl rfl rfl en21 (fun w hw => (f_find fs hok hlen A c w (hrd1.st0 hw) id hid).mono (fun v L h => (by rw [hfd] at h; exact h : v = .tuple #[.int .i64 0, .int .i64 7]))) rfl ?_
      rintro _ _ rfl
      refine RL.move rfl ?_
      refine RL.extract rfl rfl rfl ?_
      refine RL.extract rfl rfl rfl ?_
      refine RL.assign rfl ?_
      refine RL.assign rfl ?_
      refine RL.nil ?_
      refine X.seq ?_
      refine X.region rfl ?_
      refine RL.move rfl ?_
      refine RL.loadOA rfl ag28 rfl (take_all (gcells_length hid)) (gcells_length hid) ?_
      refine RL.fn0 rfl rfl rfl en22 (fun w hw => (f_rfind fs hok hlen A c w (hrd1.st0 hw) id hid).mono (fun v L h => (by rw [hfd] at h; exact h : v = .int .i64 (-1)))) rfl ?_
      rintro _ _ rfl
      refine RL.assign rfl ?_
      refine RL.nil ?_
      refine X.seq ?_
      refine X.seq ?_
      refine X.region rfl ?_
      refine RL.move rfl ?_
      refine RL.cmp_t rfl rfl rfl rfl (by show ((_ : Int) < _); decide) ?_
      refine RL.move rfl ?_
      refine RL.move rfl ?_
      refine RL.cmp_f rfl rfl rfl rfl (by show ¬ ((_ : Int) ≠ _); exact fun h => h rfl) ?_
      refine RL.move rfl ?_
      refine RL.move rfl ?_
      refine RL.cmp_f rfl rfl rfl rfl (by show ¬ ((_ : Int) ≠ _); exact fun h => h rfl) ?_
      refine RL.pick_f rfl rfl ?_
      refine RL.pick_t rfl rfl ?_
      refine RL.move rfl ?_
      refine RL.move rfl ?_
      refine RL.cmp_f rfl rfl rfl rfl (by show ¬ ((_ : Int) ≥ _); decide) ?_
      refine RL.move rfl ?_
      refine RL.skip rfl ?_
      refine RL.skip rfl ?_
      refine RL.skip rfl ?_
      refine RL.skip rfl ?_
      refine RL.skip rfl ?_
      refine RL.skip rfl ?_
      refine RL.skip rfl ?_
      refine RL.pick_f rfl rfl ?_
      refine RL.pick_f rfl rfl ?_
      refine RL.nil ?_
      refine X.cond_f rfl ?_
      refine X.skip ?_
      refine X.seq ?_
      refine X.any [.val (.slice A fs.length c), .val (.agg (gcells id).toArray), rowF (underN fs id fs.length), .val (.slice A fs.length c), .val (.agg (gcells id).toArray), rowF (underN fs id fs.length), .val (.bool true), .val (.bool true), .val (.bool true), .val (.bool true), .val (.bool true)] rfl (by kernel_rfl) (by kernel_rfl) (by kernel_rfl) ⟨?_, ?_, ?_, ?_, ?_, ?_, ?_, ?_, ?_, ?_, ?_, trivial⟩ ?_
      · intro ρ L hF hfix hold hL
        have u0 : ρ 0 = .slice A fs.length c := hfix 0 (by decide)
        obtain ⟨base, rfl⟩ := Has.base (ρ := ρ) (l := [(0, .slice A fs.length c)]) ⟨u0, trivial⟩
        refine RL.move rfl ?_
        refine RL.nil ?_
        exact ⟨rfl, ⟨_, rfl, rfl⟩, fun p hp => hp⟩
      · intro ρ L hF hfix hold hL
        have u3 : ρ 3 = .pointer (some ⟨b1, 0, none⟩) := hfix 3 (by decide)
        obtain ⟨base, rfl⟩ := Has.base (ρ := ρ) (l := [(3, .pointer (some ⟨b1, 0, none⟩))]) ⟨u3, trivial⟩
        haveI : HasE b1 (cel 28 (gcells id)) L := ⟨hL _ (by simp)⟩
        refine RL.loadOA rfl ag28 rfl (take_all (gcells_length hid)) (gcells_length hid) ?_
        refine RL.nil ?_
        exact ⟨rfl, ⟨_, rfl, rfl⟩, fun p hp => hp⟩
      · intro ρ L hF hfix hold hL
        have u43 : ρ 43 = .slice A fs.length c := hF ⟨0, Ground.data⟩ (by simp) rfl _ _ rfl rfl
        have u44 : ρ 44 = .agg (gcells id).toArray := hF ⟨1, Ground.data⟩ (by simp) rfl _ _ rfl rfl
        obtain ⟨base, rfl⟩ := Has.base (ρ := ρ) (l := [(43, .slice A fs.length c), (44, .agg (gcells id).toArray)]) ⟨u43, u44, trivial⟩
        skip
        refine RL.fn0 rfl rfl rfl en23 (fun w hw => (f_under fs hok hg A c w (hrd1.st0 hw) id hid)) rfl ?_
        rintro _ _ ⟨L1, hs, A1, cp1, rfl, hrow⟩
        refine RL.nil ?_
        exact ⟨rfl, ⟨_, rfl, ⟨L1, fun p hp => List.mem_append_left _ (hs.subset hp), A1, cp1, rfl, hrow⟩⟩, fun p hp => List.mem_append_right _ hp⟩
      · intro ρ L hF hfix hold hL
        have u0 : ρ 0 = .slice A fs.length c := hfix 0 (by decide)
        obtain ⟨base, rfl⟩ := Has.base (ρ := ρ) (l := [(0, .slice A fs.length c)]) ⟨u0, trivial⟩
        refine RL.move rfl ?_
        refine RL.nil ?_
        exact ⟨rfl, ⟨_, rfl, rfl⟩, fun p hp => hp⟩
      · intro ρ L hF hfix hold hL
        have u3 : ρ 3 = .pointer (some ⟨b1, 0, none⟩) := hfix 3 (by decide)
        obtain ⟨base, rfl⟩ := Has.base (ρ := ρ) (l := [(3, .pointer (some ⟨b1, 0, none⟩))]) ⟨u3, trivial⟩
        haveI : HasE b1 (cel 28 (gcells id)) L := ⟨hL _ (by simp)⟩
        refine RL.loadOA rfl ag28 rfl (take_all (gcells_length hid)) (gcells_length hid) ?_
        refine RL.nil ?_
        exact ⟨rfl, ⟨_, rfl, rfl⟩, fun p hp => hp⟩
      · intro ρ L hF hfix hold hL
        have u46 : ρ 46 = .slice A fs.length c := hF ⟨3, Ground.data⟩ (by simp) rfl _ _ rfl rfl
        have u47 : ρ 47 = .agg (gcells id).toArray := hF ⟨4, Ground.data⟩ (by simp) rfl _ _ rfl rfl
        obtain ⟨base, rfl⟩ := Has.base (ρ := ρ) (l := [(46, .slice A fs.length c), (47, .agg (gcells id).toArray)]) ⟨u46, u47, trivial⟩
        skip
        refine RL.fn0 rfl rfl rfl en24 (fun w hw => (f_runder fs hok hg A c w (hrd1.st0 hw) id hid)) rfl ?_
        rintro _ _ ⟨L1, hs, A1, cp1, rfl, hrow⟩
        refine RL.nil ?_
        exact ⟨rfl, ⟨_, rfl, ⟨L1, fun p hp => List.mem_append_left _ (hs.subset hp), A1, cp1, rfl, hrow⟩⟩, fun p hp => List.mem_append_right _ hp⟩
      · intro ρ L hF hfix hold hL
        obtain ⟨L45, hs45, A45, cp45, u45, r45⟩ := hF ⟨2, Ground.data⟩ (by simp) rfl _ _ rfl rfl
        obtain ⟨L48, hs48, A48, cp48, u48, r48⟩ := hF ⟨5, Ground.data⟩ (by simp) rfl _ _ rfl rfl
        obtain ⟨base, rfl⟩ := Has.base (ρ := ρ) (l := [(45, .slice A45 (underN fs id fs.length : List Int).length cp45), (48, .slice A48 (underN fs id fs.length : List Int).length cp48)]) ⟨u45, u48, trivial⟩
        refine RL.fn0 rfl rfl rfl en15 (fun w hw => (f_same (underN fs id fs.length) (underN fs id fs.length) A45 A48 cp45 cp48 w (by have := underN_len fs id fs.length; omega) (by have := underN_len fs id fs.length; omega) (row_rd r45 hw (fun p hp => by simp [hs45 p hp])) (row_rd r48 hw (fun p hp => by simp [hs48 p hp]))).mono (fun v L h => (by rw [h, decide_eq_true rfl] : v = .bool true))) rfl ?_
        rintro _ _ rfl
        refine RL.nil ?_
        exact ⟨rfl, ⟨_, rfl, rfl⟩, fun p hp => List.mem_append_right _ hp⟩
      · intro ρ L hF hfix hold hL
        have u49 : ρ 49 = .bool true := hF ⟨6, Ground.data⟩ (by simp) rfl _ _ rfl rfl
        obtain ⟨base, rfl⟩ := Has.base (ρ := ρ) (l := [(49, .bool true)]) ⟨u49, trivial⟩
        refine RL.move rfl ?_
        refine RL.nil ?_
        exact ⟨rfl, ⟨_, rfl, rfl⟩, fun p hp => hp⟩
      · intro ρ L hF hfix hold hL
        have u50 : ρ 50 = .bool true := hF ⟨7, Ground.chain⟩ (by simp) rfl _ _ rfl rfl
        obtain ⟨base, rfl⟩ := Has.base (ρ := ρ) (l := [(50, .bool true)]) ⟨u50, trivial⟩
        refine RL.fn0 rfl rfl rfl en10 (fun w hw => (f_awake w)) rfl ?_
        rintro _ _ rfl
        refine RL.nil ?_
        exact ⟨rfl, ⟨_, rfl, rfl⟩, fun p hp => List.mem_append_right _ hp⟩
      · intro ρ L hF hfix hold hL
        have u50 : ρ 50 = .bool true := hF ⟨7, Ground.data⟩ (by simp) rfl _ _ rfl rfl
        have u51 : ρ 51 = .bool true := hF ⟨8, Ground.data⟩ (by simp) rfl _ _ rfl rfl
        obtain ⟨base, rfl⟩ := Has.base (ρ := ρ) (l := [(50, .bool true), (51, .bool true)]) ⟨u50, u51, trivial⟩
        refine RL.pick_t rfl rfl ?_
        refine RL.nil ?_
        exact ⟨rfl, ⟨_, rfl, rfl⟩, fun p hp => hp⟩
      · intro ρ L hF hfix hold hL
        have u52 : ρ 52 = .bool true := hF ⟨9, Ground.data⟩ (by simp) rfl _ _ rfl rfl
        obtain ⟨base, rfl⟩ := Has.base (ρ := ρ) (l := [(52, .bool true)]) ⟨u52, trivial⟩
        refine RL.assign rfl ?_
        refine RL.nil ?_
        exact ⟨rfl, ⟨_, rfl, rfl⟩, fun p hp => hp⟩
      · intro ρ L hT hfix hL
        have u4 : ρ 4 = .bool true := hT 10 _ _ rfl rfl
        obtain ⟨base, rfl⟩ := Has.base (ρ := ρ) (l := [(4, .bool true)]) ⟨u4, trivial⟩
        refine X.ret ?_
        refine ret1 rfl ?_
        show (_ : Value) = _
        rfl
    · refine RL.fn0 rfl rfl rfl en9 (fun w hw => (f_great A fs.length c w hmax).toF (by omega)) rfl ?_
      rintro _ _ rfl
      refine RL.nil ?_
      refine X.cond_f rfl ?_
      refine X.skip ?_
      refine X.seq ?_
      refine X.region rfl ?_
      refine RL.move rfl ?_
      refine RL.loadOA rfl ag28 rfl (take_all (gcells_length hid)) (gcells_length hid) ?_
      refine RL.fn0 rfl rfl rfl en21 (fun w hw => (f_find fs hok hlen A c w (hrd1.st0 hw) id hid).mono (fun v L h => (by rw [hfd] at h; exact h : v = .tuple #[.int .i64 n, .int .i64 0]))) rfl ?_
      rintro _ _ rfl
      refine RL.move rfl ?_
      refine RL.extract rfl rfl rfl ?_
      refine RL.extract rfl rfl rfl ?_
      refine RL.assign rfl ?_
      refine RL.assign rfl ?_
      refine RL.nil ?_
      refine X.seq ?_
      refine X.region rfl ?_
      refine RL.move rfl ?_
      refine RL.loadOA rfl ag28 rfl (take_all (gcells_length hid)) (gcells_length hid) ?_
      refine RL.fn0 rfl rfl rfl en22 (fun w hw => (f_rfind fs hok hlen A c w (hrd1.st0 hw) id hid).mono (fun v L h => (by rw [hfd] at h; exact h : v = .int .i64 n))) rfl ?_
      rintro _ _ rfl
      refine RL.assign rfl ?_
      refine RL.nil ?_
      refine X.seq ?_
      refine X.seq ?_
      refine X.region rfl ?_
      refine RL.move rfl ?_
      refine RL.cmp_f rfl rfl rfl rfl (by show ¬ ((_ : Int) < _); omega) ?_
      refine RL.move rfl ?_
      refine RL.skip rfl ?_
      refine RL.skip rfl ?_
      refine RL.skip rfl ?_
      refine RL.skip rfl ?_
      refine RL.skip rfl ?_
      refine RL.skip rfl ?_
      refine RL.pick_f rfl rfl ?_
      refine RL.move rfl ?_
      refine RL.move rfl ?_
      refine RL.cmp_t rfl rfl rfl rfl (by show ((_ : Int) ≥ _); omega) ?_
      refine RL.move rfl ?_
      refine RL.move rfl ?_
      refine RL.cmp_f rfl rfl rfl rfl (by show ¬ ((_ : Int) ≠ _); exact fun h => h rfl) ?_
      refine RL.move rfl ?_
      refine RL.move rfl ?_
      refine RL.move rfl ?_
      refine RL.cmp_f rfl rfl rfl rfl (by show ¬ ((_ : Int) ≠ _); exact fun h => h rfl) ?_
      refine RL.pick_f rfl rfl ?_
      refine RL.pick_t rfl rfl ?_
      refine RL.pick_f rfl rfl ?_
      refine RL.nil ?_
      refine X.cond_f rfl ?_
      refine X.skip ?_
      refine X.seq ?_
      refine X.any [.val (.slice A fs.length c), .val (.agg (gcells id).toArray), rowF (underN fs id fs.length), .val (.slice A fs.length c), .val (.agg (gcells id).toArray), rowF (underN fs id fs.length), .val (.bool true), .val (.bool true), .val (.bool true), .val (.bool true), .val (.bool true)] rfl (by kernel_rfl) (by kernel_rfl) (by kernel_rfl) ⟨?_, ?_, ?_, ?_, ?_, ?_, ?_, ?_, ?_, ?_, ?_, trivial⟩ ?_
      · intro ρ L hF hfix hold hL
        have u0 : ρ 0 = .slice A fs.length c := hfix 0 (by decide)
        obtain ⟨base, rfl⟩ := Has.base (ρ := ρ) (l := [(0, .slice A fs.length c)]) ⟨u0, trivial⟩
        refine RL.move rfl ?_
        refine RL.nil ?_
        exact ⟨rfl, ⟨_, rfl, rfl⟩, fun p hp => hp⟩
      · intro ρ L hF hfix hold hL
        have u3 : ρ 3 = .pointer (some ⟨b1, 0, none⟩) := hfix 3 (by decide)
        obtain ⟨base, rfl⟩ := Has.base (ρ := ρ) (l := [(3, .pointer (some ⟨b1, 0, none⟩))]) ⟨u3, trivial⟩
        haveI : HasE b1 (cel 28 (gcells id)) L := ⟨hL _ (by simp)⟩
        refine RL.loadOA rfl ag28 rfl (take_all (gcells_length hid)) (gcells_length hid) ?_
        refine RL.nil ?_
        exact ⟨rfl, ⟨_, rfl, rfl⟩, fun p hp => hp⟩
      · intro ρ L hF hfix hold hL
        have u43 : ρ 43 = .slice A fs.length c := hF ⟨0, Ground.data⟩ (by simp) rfl _ _ rfl rfl
        have u44 : ρ 44 = .agg (gcells id).toArray := hF ⟨1, Ground.data⟩ (by simp) rfl _ _ rfl rfl
        obtain ⟨base, rfl⟩ := Has.base (ρ := ρ) (l := [(43, .slice A fs.length c), (44, .agg (gcells id).toArray)]) ⟨u43, u44, trivial⟩
        skip
        refine RL.fn0 rfl rfl rfl en23 (fun w hw => (f_under fs hok hg A c w (hrd1.st0 hw) id hid)) rfl ?_
        rintro _ _ ⟨L1, hs, A1, cp1, rfl, hrow⟩
        refine RL.nil ?_
        exact ⟨rfl, ⟨_, rfl, ⟨L1, fun p hp => List.mem_append_left _ (hs.subset hp), A1, cp1, rfl, hrow⟩⟩, fun p hp => List.mem_append_right _ hp⟩
      · intro ρ L hF hfix hold hL
        have u0 : ρ 0 = .slice A fs.length c := hfix 0 (by decide)
        obtain ⟨base, rfl⟩ := Has.base (ρ := ρ) (l := [(0, .slice A fs.length c)]) ⟨u0, trivial⟩
        refine RL.move rfl ?_
        refine RL.nil ?_
        exact ⟨rfl, ⟨_, rfl, rfl⟩, fun p hp => hp⟩
      · intro ρ L hF hfix hold hL
        have u3 : ρ 3 = .pointer (some ⟨b1, 0, none⟩) := hfix 3 (by decide)
        obtain ⟨base, rfl⟩ := Has.base (ρ := ρ) (l := [(3, .pointer (some ⟨b1, 0, none⟩))]) ⟨u3, trivial⟩
        haveI : HasE b1 (cel 28 (gcells id)) L := ⟨hL _ (by simp)⟩
        refine RL.loadOA rfl ag28 rfl (take_all (gcells_length hid)) (gcells_length hid) ?_
        refine RL.nil ?_
        exact ⟨rfl, ⟨_, rfl, rfl⟩, fun p hp => hp⟩
      · intro ρ L hF hfix hold hL
        have u46 : ρ 46 = .slice A fs.length c := hF ⟨3, Ground.data⟩ (by simp) rfl _ _ rfl rfl
        have u47 : ρ 47 = .agg (gcells id).toArray := hF ⟨4, Ground.data⟩ (by simp) rfl _ _ rfl rfl
        obtain ⟨base, rfl⟩ := Has.base (ρ := ρ) (l := [(46, .slice A fs.length c), (47, .agg (gcells id).toArray)]) ⟨u46, u47, trivial⟩
        skip
        refine RL.fn0 rfl rfl rfl en24 (fun w hw => (f_runder fs hok hg A c w (hrd1.st0 hw) id hid)) rfl ?_
        rintro _ _ ⟨L1, hs, A1, cp1, rfl, hrow⟩
        refine RL.nil ?_
        exact ⟨rfl, ⟨_, rfl, ⟨L1, fun p hp => List.mem_append_left _ (hs.subset hp), A1, cp1, rfl, hrow⟩⟩, fun p hp => List.mem_append_right _ hp⟩
      · intro ρ L hF hfix hold hL
        obtain ⟨L45, hs45, A45, cp45, u45, r45⟩ := hF ⟨2, Ground.data⟩ (by simp) rfl _ _ rfl rfl
        obtain ⟨L48, hs48, A48, cp48, u48, r48⟩ := hF ⟨5, Ground.data⟩ (by simp) rfl _ _ rfl rfl
        obtain ⟨base, rfl⟩ := Has.base (ρ := ρ) (l := [(45, .slice A45 (underN fs id fs.length : List Int).length cp45), (48, .slice A48 (underN fs id fs.length : List Int).length cp48)]) ⟨u45, u48, trivial⟩
        refine RL.fn0 rfl rfl rfl en15 (fun w hw => (f_same (underN fs id fs.length) (underN fs id fs.length) A45 A48 cp45 cp48 w (by have := underN_len fs id fs.length; omega) (by have := underN_len fs id fs.length; omega) (row_rd r45 hw (fun p hp => by simp [hs45 p hp])) (row_rd r48 hw (fun p hp => by simp [hs48 p hp]))).mono (fun v L h => (by rw [h, decide_eq_true rfl] : v = .bool true))) rfl ?_
        rintro _ _ rfl
        refine RL.nil ?_
        exact ⟨rfl, ⟨_, rfl, rfl⟩, fun p hp => List.mem_append_right _ hp⟩
      · intro ρ L hF hfix hold hL
        have u49 : ρ 49 = .bool true := hF ⟨6, Ground.data⟩ (by simp) rfl _ _ rfl rfl
        obtain ⟨base, rfl⟩ := Has.base (ρ := ρ) (l := [(49, .bool true)]) ⟨u49, trivial⟩
        refine RL.move rfl ?_
        refine RL.nil ?_
        exact ⟨rfl, ⟨_, rfl, rfl⟩, fun p hp => hp⟩
      · intro ρ L hF hfix hold hL
        have u50 : ρ 50 = .bool true := hF ⟨7, Ground.chain⟩ (by simp) rfl _ _ rfl rfl
        obtain ⟨base, rfl⟩ := Has.base (ρ := ρ) (l := [(50, .bool true)]) ⟨u50, trivial⟩
        refine RL.fn0 rfl rfl rfl en10 (fun w hw => (f_awake w)) rfl ?_
        rintro _ _ rfl
        refine RL.nil ?_
        exact ⟨rfl, ⟨_, rfl, rfl⟩, fun p hp => List.mem_append_right _ hp⟩
      · intro ρ L hF hfix hold hL
        have u50 : ρ 50 = .bool true := hF ⟨7, Ground.data⟩ (by simp) rfl _ _ rfl rfl
        have u51 : ρ 51 = .bool true := hF ⟨8, Ground.data⟩ (by simp) rfl _ _ rfl rfl
        obtain ⟨base, rfl⟩ := Has.base (ρ := ρ) (l := [(50, .bool true), (51, .bool true)]) ⟨u50, u51, trivial⟩
        refine RL.pick_t rfl rfl ?_
        refine RL.nil ?_
        exact ⟨rfl, ⟨_, rfl, rfl⟩, fun p hp => hp⟩
      · intro ρ L hF hfix hold hL
        have u52 : ρ 52 = .bool true := hF ⟨9, Ground.data⟩ (by simp) rfl _ _ rfl rfl
        obtain ⟨base, rfl⟩ := Has.base (ρ := ρ) (l := [(52, .bool true)]) ⟨u52, trivial⟩
        refine RL.assign rfl ?_
        refine RL.nil ?_
        exact ⟨rfl, ⟨_, rfl, rfl⟩, fun p hp => hp⟩
      · intro ρ L hT hfix hL
        have u4 : ρ 4 = .bool true := hT 10 _ _ rfl rfl
        obtain ⟨base, rfl⟩ := Has.base (ρ := ρ) (l := [(4, .bool true)]) ⟨u4, trivial⟩
        refine X.ret ?_
        refine ret1 rfl ?_
        show (_ : Value) = _
        rfl
end Go.Proofs.Ytjaibkfmkhfjfaa

/-
  Contracts: opclass.Covers of whatever class; pergolalaw16.small; a boxes class at a key.
-/
import Derived.Test.YtahiaekoaokgnaaGreatCovA
import Derived.Test.YtahiaekoaokgnaaGreatSums
import Derived.Test.YtahiaekoaokgnaaGreatEncK
set_option linter.unusedSimpArgs false
set_option linter.unusedVariables false
namespace Go.Proofs.YtahiaekoaokgnaaGreat
open Go.RowKit Pg

set_option maxHeartbeats 2000000 in
theorem Covers_any (t : TypeId) (rv : Value) (fC fD : Nat) (Y : List Nat) (cons : Qu → Bool) (d : Pt → Fr) (hmC : ∀ w, (Go.method 329 t rv "Consistent").run Tryz.prog w = .ok (fC, rv) w) (hnC : ∀ w, (nilAhead 329 t rv "Consistent").run Tryz.prog w = .ok (some false) w) (hC : ConsAt rv fC Y cons)
    (hmD : ∀ w, (Go.method 329 t rv "Dist").run Tryz.prog w = .ok (fD, rv) w) (hnD : ∀ w, (nilAhead 329 t rv "Dist").run Tryz.prog w = .ok (some false) w) (hD : DistAt rv fD Y d)
    (B c n1 c1 n2 c2 n3 c3 : Nat) (A A1 A2 A3 : Option Addr) (l : List Ob) (q : List Qu) (p : List Pt) (w : World) (hK : BysAt w B A Y.length Y) (hKc : Y.length ≤ c) (hKA : A = none → c = 0) (hK1 : Y.length ≤ 1000000) (hl : ObsAt w B A1 n1 l) (hq : QusAt w B A2 n2 q) (hp : PtsAt w B A3 n3 p) (hB : B ≤ w.heap.size)
    (hn1 : n1 ≤ 1000000) (hn2 : n2 ≤ 1000000) (hn3 : n3 ≤ 1000000) (hlo : ∀ o ∈ l, o.pts.length ≤ 1000000) (hqo : ∀ x ∈ q, x.ring.length ≤ 1000000) :
    Calls Tryz.prog 13 #[.iface t rv, .slice A Y.length c, .slice A1 n1 c1, .slice A2 n2 c2, .slice A3 n3 c3] w (Ret w (.bool (asksS cons l q && nearsS d l p))) := by
  have HA := Lib.hid (fun W (hW : Below w.heap.size w W) => asks_any t rv fC Y cons hmC hnC hC B c n1 c1 n2 c2 A A1 A2 l q W (hK.tr hW hB) hKc hKA hK1 (hl.tr hW hB) (hq.tr hW hB) (Nat.le_trans hB hW.size) hn1 hn2 hlo hqo)
  have HN := Lib.hid (fun W (hW : Below w.heap.size w W) => nears_any t rv fD Y d hmD hnD hD B c n1 c1 n3 c3 A A1 A3 l p W (hK.tr hW hB) hKc hKA hK1 (hl.tr hW hB) (hp.tr hW hB) (Nat.le_trans hB hW.size) hn1 hn3 hlo)
  obtain ⟨a, ha⟩ : ∃ v, asksS cons l q = v := ⟨_, rfl⟩
  obtain ⟨b, hb⟩ : ∃ v, nearsS d l p = v := ⟨_, rfl⟩
  rw [ha] at HA
  rw [hb] at HN
  rw [ha, hb]
  clear ha hb hmC hnC hC hmD hnD hD hK hl hq hp hlo hqo
  cases a <;> cases b
  all_goals (go_enter Tryz.func13, Tryz.ntmps13)
  all_goals (go_wp2_with (first | (go_at_call 20; (with_reducible refine (HA.out _ bel).mono ?_); rintro e w1 ⟨rfl, hb1⟩) | (go_at_call 21; (with_reducible refine (HN.out _ bel).mono ?_); rintro e w2 ⟨rfl, hb2⟩)))
  all_goals go_ret
  all_goals exact ⟨rfl, bel⟩

theorem sum_two (g n x : Nat) (t : TypeId) (w : World) (hg : Blk w g t #[.int .i64 (x : Int), .int .i64 1]) (hn : n ≤ 1099511627776) :
    Calls Tryz.prog 16 #[.int .i64 n, .slice (some ⟨g, 0, none⟩) 2 2] w fun e w' => e = .returned (.int .i64 (sumS n [x, 1] : Nat)) ∧ w = w' := sum_any g n 2 t [x, 1] w hg rfl (by decide) hn

/-- a bool that is true only if P -/
def BoolP (v : Value) (P : Prop) : Prop := v = .bool false ∨ (v = .bool true ∧ P)
set_option maxHeartbeats 4000000 in
set_option maxRecDepth 20000 in
theorem small16_any (B n1 c1 n2 c2 n3 c3 : Nat) (A1 A2 A3 : Option Addr) (l : List Ob) (q : List Qu) (w : World) (hl : ObsAt w B A1 n1 l) (hq : QusAt w B A2 n2 q) (hB : B ≤ w.heap.size) (hn1 : n1 ≤ 9223372036854775807) (hn2 : n2 ≤ 9223372036854775807) :
    Calls Tryz.prog 5 #[.slice A1 n1 c1, .slice A2 n2 c2, .slice A3 n3 c3] w fun e w' => ∃ v, e = .returned v ∧ BoolP v (n1 ≤ 30 ∧ n2 ≤ 20 ∧ n3 ≤ 20 ∧ (∀ o ∈ l, o.pts.length ≤ 400) ∧ ∀ x ∈ q, x.ring.length ≤ 400) ∧ Below w.heap.size w w' := by
  have HL := Lib.hid hl
  have HQ := Lib.hid hq
  clear hl hq
  go_enter Tryz.func5, Tryz.ntmps5
  go_wp2_with fail
  go_loopw [7, 8] (fun vn vi wr => ∃ k m : Nat, k ≤ n1 ∧ vi = .int .i64 k ∧ vn = .int .i64 m ∧ m ≤ 1099511627776 ∧ (m ≤ 400 → ∀ o ∈ l.take k, o.pts.length ≤ 400) ∧ Below w.heap.size w wr) (fun _ vi _ => n1 - (intOf vi).toNat)
  case atStart => exact ⟨0, 0, by omega, rfl, rfl, by omega, fun _ l hl => by simp at hl, bel⟩
  case round =>
    obtain ⟨k, m, hk, rfl, rfl, hm, hs, hb⟩ := hrel
    by_cases hlt : k < n1
    case pos =>
      have hk1 : (k : Int) < (n1 : Int) := by omega
      obtain ⟨b, off, A', n', c', o, rfl, hab, ho, h0, h1, hpo⟩ := (HL.out.below (hb.mono hB)).at_ hlt
      have hbw : b < wr.heap.size := by have := hb.size; omega
      have hS := Lib.hid (And.intro hs (And.intro ho hpo.1))
      have hM := Lib.hid hm
      obtain ⟨m', hm'⟩ : ∃ m', sumS m [n', 1] = m' := ⟨_, rfl⟩
      have HM' := Lib.hid hm'
      have HSS := Lib.hid (fun g t w hg => sum_two g m n' t w hg hm)
      rw [hm'] at HSS
      clear hs hm hm' hpo h0 ho
      go_wp2_with (go_at_call 16; (with_reducible refine (HSS.out _ 3 _ ?_).mono ?_); (focus exact blkA); rintro e w1 ⟨rfl, rfl⟩)
      go_roundw
      case rel =>
        refine ⟨k + 1, m', by omega, by go_num, rfl, by rw [← HM'.out]; exact (sumS_le _ _ hM.out).2, fun h l hl => ?_, bel⟩
        obtain ⟨h1, h2, h3⟩ := hS.out
        have h4 := sumS_small [n', 1] m hM.out (by rw [HM'.out]; omega)
        rw [HM'.out] at h4
        simp at h4
        rw [List.take_add_one, h2] at hl
        rcases List.mem_append.1 hl with hl | hl
        · exact h1 (by omega) l hl
        · simp at hl
          subst hl
          omega
      case measure => simp [intOf]; omega
    obtain rfl : n1 = k := by omega
    have HS : Hid (m ≤ 400 → ∀ o ∈ l, o.pts.length ≤ 400) := by
      intro h
      have := hs h
      rw [List.take_of_length_le (by rw [HL.out.1]; omega)] at this
      exact this
    have hm0 := hm
    clear hs
    go_wp2_with fail
    go_loopw [7, 9] (fun vn vi wr => ∃ k m' : Nat, k ≤ n2 ∧ vi = .int .i64 k ∧ vn = .int .i64 m' ∧ m' ≤ 1099511627776 ∧ m ≤ m' ∧ (m' ≤ 400 → ∀ o ∈ q.take k, o.ring.length ≤ 400) ∧ Below w.heap.size w wr) (fun _ vi _ => n2 - (intOf vi).toNat)
    case atStart => exact ⟨0, m, by omega, rfl, rfl, hm0, by omega, fun _ l hl => by simp at hl, bel⟩
    case round =>
      clear hb
      obtain ⟨k, m2, hk, rfl, rfl, hm, hmm, hs, hb⟩ := hrel
      by_cases hlt : k < n2
      case pos =>
        have hk1 : (k : Int) < (n2 : Int) := by omega
        obtain ⟨b, off, A', n', c', o, rfl, hab, ho, ⟨h0, h1, h2, h3, h4, h5⟩, hpo⟩ := (HQ.out.below (hb.mono hB)).at_ hlt
        have hbw : b < wr.heap.size := by have := hb.size; omega
        have hS := Lib.hid (And.intro hs (And.intro ho (And.intro hpo.1 hmm)))
        have hM := Lib.hid hm
        obtain ⟨m', hm'⟩ : ∃ m', sumS m2 [n', 1] = m' := ⟨_, rfl⟩
        have HM' := Lib.hid hm'
        have HSS := Lib.hid (fun g t w hg => sum_two g m2 n' t w hg hm)
        rw [hm'] at HSS
        clear hs hm hm' hpo h0 ho h1 h2 h3 h4 hmm hm0
        go_wp2_with (go_at_call 16; (with_reducible refine (HSS.out _ 3 _ ?_).mono ?_); (focus exact blkA); rintro e w1 ⟨rfl, rfl⟩)
        go_roundw
        case rel =>
          obtain ⟨h1, h2, h3, h5⟩ := hS.out
          have h6 := (sumS_le [n', 1] m2 hM.out).1
          rw [HM'.out] at h6
          refine ⟨k + 1, m', by omega, by go_num, rfl, by rw [← HM'.out]; exact (sumS_le _ _ hM.out).2, by omega, fun h l hl => ?_, bel⟩
          have h4 := sumS_small [n', 1] m2 hM.out (by rw [HM'.out]; omega)
          rw [HM'.out] at h4
          simp at h4
          rw [List.take_add_one, h2] at hl
          rcases List.mem_append.1 hl with hl | hl
          · exact h1 (by omega) l hl
          · simp at hl
            subst hl
            omega
        case measure => simp [intOf]; omega
      obtain rfl : n2 = k := by omega
      have HS2 : Hid (m2 ≤ 400 → ∀ o ∈ q, o.ring.length ≤ 400) := by
        intro h
        have := hs h
        rw [List.take_of_length_le (by rw [HQ.out.1]; omega)] at this
        exact this
      clear hs
      by_cases d1 : m2 ≤ 400
      case neg =>
        have d1' : ¬ (m2 : Int) ≤ 400 := by omega
        go_wp2_with fail
        go_ret
        exact ⟨_, rfl, .inl rfl, bel⟩
      have d1' : (m2 : Int) ≤ 400 := by omega
      by_cases d2 : n1 ≤ 30
      case neg =>
        have d2' : ¬ (n1 : Int) ≤ 30 := by omega
        go_wp2_with fail
        go_ret
        exact ⟨_, rfl, .inl rfl, bel⟩
      have d2' : (n1 : Int) ≤ 30 := by omega
      by_cases d3 : n2 ≤ 20
      case neg =>
        have d3' : ¬ (n2 : Int) ≤ 20 := by omega
        go_wp2_with fail
        go_ret
        exact ⟨_, rfl, .inl rfl, bel⟩
      have d3' : (n2 : Int) ≤ 20 := by omega
      by_cases d4 : n3 ≤ 20
      case neg =>
        have d4' : ¬ (n3 : Int) ≤ 20 := by omega
        go_wp2_with fail
        go_ret
        exact ⟨_, rfl, .inl rfl, bel⟩
      have d4' : (n3 : Int) ≤ 20 := by omega
      go_wp2_with fail
      go_ret
      exact ⟨_, rfl, .inr ⟨rfl, d2, d3, d4, HS.out (by omega), HS2.out d1⟩, bel⟩
end Go.Proofs.YtahiaekoaokgnaaGreat

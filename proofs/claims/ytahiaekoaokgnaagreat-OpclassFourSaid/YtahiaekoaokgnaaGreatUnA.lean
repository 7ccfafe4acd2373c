/-
  Rows for the walk of OpclassUnions: keys and objects taken, cut and put together; a boxes class at a key.
-/
import Derived.Test.YtahiaekoaokgnaaGreatCovB
import Derived.Test.YtahiaekoaokgnaaGreatPlainCov
import Derived.Test.YtahiaekoaokgnaaGreatEncG
import Derived.Test.YtahiaekoaokgnaaGreatEncJ
set_option linter.unusedSimpArgs false
set_option linter.unusedVariables false
namespace Go.Proofs.YtahiaekoaokgnaaGreat
open Go.RowKit Pg
/-- pergolaalike.Round: a number turned into a place -/
def roundS (k : Int) (n : Nat) : Nat := (k % (n : Int)).toNat
theorem roundS_lt {k : Int} {n : Nat} (hn : 0 < n) : roundS k n < n := by
  unfold roundS
  have := Int.emod_lt_of_pos k (show (0 : Int) < n by omega)
  have := Int.emod_nonneg k (show (n : Int) ≠ 0 by omega)
  omega
theorem roundS_tmod (k : Int) {n : Nat} (hn : 0 < n) : ((roundS k n : Nat) : Int) = if k.tmod n < 0 then k.tmod n + n else k.tmod n := by
  unfold roundS
  have h1 := Int.emod_nonneg k (show (n : Int) ≠ 0 by omega)
  rw [Int.toNat_of_nonneg h1]
  have h2 := Int.emod_lt_of_pos k (show (0 : Int) < n by omega)
  rcases Int.lt_or_le k 0 with hk | hk
  · have e : k.tmod n = -((-k) % n) := by rw [← Int.tmod_eq_emod_of_nonneg (by omega : 0 ≤ -k), Int.neg_tmod, Int.neg_neg]
    have e2 := Int.emod_nonneg (-k) (show (n : Int) ≠ 0 by omega)
    have e3 := Int.emod_lt_of_pos (-k) (show (0 : Int) < n by omega)
    have d1 := Int.emod_add_mul_ediv k n
    have d2 := Int.emod_add_mul_ediv (-k) n
    have key : (k % n + (-k) % n) % n = 0 := by
      rw [← Int.add_emod, Int.add_right_neg, Int.zero_emod]
    rcases Decidable.em ((-k) % (n : Int) = 0) with z | z
    · rw [e, z]
      simp
      rw [z, Int.add_zero, Int.emod_emod_of_dvd k (Int.dvd_refl _)] at key
      exact key
    · rw [if_pos (by omega), e]
      have hs : k % n + (-k) % n = n := by
        rcases Int.lt_or_le (k % n + (-k) % n) n with h | h
        · rw [Int.emod_eq_of_lt (by omega) h] at key
          omega
        · have : (k % n + (-k) % n - n) % n = 0 := by rw [Int.sub_emod_right]; exact key
          rw [Int.emod_eq_of_lt (by omega) (by omega)] at this
          omega
      omega
  · rw [Int.tmod_eq_emod_of_nonneg hk, if_neg (by omega)]

theorem methodMakeU (v : Value) (w : World) : (Go.method 329 81 v "Make").run Tryz.prog w = .ok (178, v) w := by kernel_rfl
theorem methodUnionU (v : Value) (w : World) : (Go.method 329 81 v "Union").run Tryz.prog w = .ok (181, v) w := by kernel_rfl
theorem methodConsU (v : Value) (w : World) : (Go.method 329 81 v "Consistent").run Tryz.prog w = .ok (176, v) w := by kernel_rfl
theorem methodPenU (v : Value) (w : World) : (Go.method 329 81 v "Penalty").run Tryz.prog w = .ok (179, v) w := by kernel_rfl
theorem methodDistU (v : Value) (w : World) : (Go.method 329 81 v "Dist").run Tryz.prog w = .ok (177, v) w := by kernel_rfl
theorem nilAheadUC (v : Value) (w : World) : (nilAhead 329 81 (.agg #[v]) "Consistent").run Tryz.prog w = .ok (some false) w := by kernel_rfl
theorem nilAheadUD (v : Value) (w : World) : (nilAhead 329 81 (.agg #[v]) "Dist").run Tryz.prog w = .ok (some false) w := by kernel_rfl
theorem nilAheadUP (v : Value) (w : World) : (nilAhead 329 81 (.agg #[v]) "Penalty").run Tryz.prog w = .ok (some false) w := by kernel_rfl
theorem nilAheadUU (v : Value) (w : World) : (nilAhead 329 81 (.agg #[v]) "Union").run Tryz.prog w = .ok (some false) w := by kernel_rfl
theorem nilAheadUM (v : Value) (w : World) : (nilAhead 329 81 (.agg #[v]) "Make").run Tryz.prog w = .ok (some false) w := by kernel_rfl
theorem enterCons (args : Array Value) (w : World) : (callFunc 176 args).run Tryz.prog w = .ok (.enter 176 args) w := by kernel_rfl
theorem enterDist (args : Array Value) (w : World) : (callFunc 177 args).run Tryz.prog w = .ok (.enter 177 args) w := by kernel_rfl
theorem bxF_okU (b : Bx) (p : Pt) : FrOk (bxF b p) := bxF_okC b p
theorem farS_okU (k : List Nat) (p : Pt) : FrOk (farS k p) := by
  unfold farS
  split
  · exact ⟨by decide, by decide⟩
  · exact bxF_okC _ _
theorem consAt_box (cv : Value) (Y : List Nat) (h256 : ∀ x ∈ Y, x < 256) (hY : Y.length ≤ 1000000) : ConsAt (.agg #[cv]) 176 Y (consS Y) where
  enter := enterCons
  calls := fun W A c q A' m c' hK hc hA hr hm => Cons_any cv W.heap.size Y.length c m c' q.kind q.box A A' Y q.ring W hK h256 hr (Nat.le_refl _) hY hc hm
theorem distAt_box (cv : Value) (Y : List Nat) (h256 : ∀ x ∈ Y, x < 256) (hY : Y.length ≤ 1000000) : DistAt (.agg #[cv]) 177 Y (farS Y) where
  enter := enterDist
  ok := farS_okU Y
  calls := fun W B A c x y hK hB hc hA => kDist_any cv B Y.length c x y A Y W hK h256 hB hY hc

theorem Tryz.infoYsU : (Tryz.prog.info? 35).map (fun i => (i.zero, i.size, i.bytes)) = some (some (.slice none 0 0), 1, 24) := by kernel_rfl
theorem Tryz.infoObU : (Tryz.prog.info? 34).map (fun i => (i.zero, i.size, i.bytes)) = some (some (.agg #[.int .i64 0, .slice none 0 0]), 2, 32) := by kernel_rfl
theorem Blk.ownsU {w : World} {g B sz : Nat} {t : TypeId} (h : Blk w g t #[]) (hB : B ≤ g) : w.ownsRow B t sz (.slice (some ⟨g, 0, none⟩) 0 0) 0 [] :=
  ⟨by simp, .inr ⟨g, 0, #[], rfl, hB, h, Nat.le_refl _, Nat.zero_le _, by simp, by simp⟩⟩
theorem keys_grown {w w' : World} {base base' n size : Nat} {e : TypeId} {v v' : Value} {L : List (List Nat)} {xs : List Value} (h : KeysAt w base v L) (h' : w.ownsRow base' e size v' n xs) (he : 35 ≠ e) (he2 : 5 ≠ e) (hg : w.grownBy w' v'.ownBlock) : KeysAt w' base v L := by
  obtain ⟨cs, h1, h2⟩ := h
  refine ⟨cs, own_grown h1 h' he hg, fun j u hu => ?_⟩
  obtain ⟨l, hl, ho⟩ := h2 j u hu
  exact ⟨l, hl, own_grown ho h' he2 hg⟩

theorem keys_cap {w : World} {base n c : Nat} {A : Option Addr} {L : List (List Nat)} (h : KeysAt w base (.slice A n c) L) : n ≤ c := by
  obtain ⟨cs, ⟨hlen, ⟨e, h0⟩ | ⟨g, cap, cur, e, hg, hh, r⟩⟩, h2⟩ := h
  · injection e with e1 e2 e3
    omega
  · injection e with e1 e2 e3
    omega
/-- an own row of objects; their corners lie below B -/
def TakAt (w : World) (base B : Nat) (v : Value) (L : List Ob) : Prop :=
  ∃ cs : List Value, w.ownsRow base 34 2 v L.length cs ∧ ∀ (k : Nat) (o : Ob), L[k]? = some o → ∃ A' m c, cs[k * 2]? = some (.int .i64 o.kind) ∧ cs[k * 2 + 1]? = some (.slice A' m c) ∧ PtsAt w B A' m o.pts
theorem TakAt.nil (w : World) (base B : Nat) : TakAt w base B (.slice none 0 0) [] := ⟨[], World.ownsRow_nil _ _ _ _, fun j u h => by simp at h⟩
theorem TakAt.below {w w' : World} {base B : Nat} {v : Value} {L : List Ob} (h : TakAt w base B v L) (hb : Below w.heap.size w w') (hB : B ≤ w.heap.size) : TakAt w' base B v L := by
  obtain ⟨cs, h1, h2⟩ := h
  refine ⟨cs, own_belowK h1 hb, fun k o ho => ?_⟩
  obtain ⟨A', m, c, q1, q2, q3⟩ := h2 k o ho
  exact ⟨A', m, c, q1, q2, q3.tr hb hB⟩
theorem tak_grown {w w' : World} {base base' B n size : Nat} {e : TypeId} {v v' : Value} {L : List Ob} {xs : List Value} (h : TakAt w base B v L) (h' : w.ownsRow base' e size v' n xs) (he : 34 ≠ e) (hg : w.grownBy w' v'.ownBlock) (hb : Below B w w') : TakAt w' base B v L := by
  obtain ⟨cs, h1, h2⟩ := h
  refine ⟨cs, own_grown h1 h' he hg, fun k o ho => ?_⟩
  obtain ⟨A', m, c, q1, q2, q3⟩ := h2 k o ho
  exact ⟨A', m, c, q1, q2, q3.below hb⟩
theorem tak_append {w w' : World} {base B m c : Nat} {v v' : Value} {L : List Ob} {k : Int} {pts : List Pt} {A' : Option Addr} {cs : List Value} (h1 : w.ownsRow base 34 2 v L.length cs) (h2 : ∀ k o, L[k]? = some o → ∃ A' m c, cs[k * 2]? = some (.int .i64 o.kind) ∧ cs[k * 2 + 1]? = some (.slice A' m c) ∧ PtsAt w B A' m o.pts)
    (hp : PtsAt w B A' m pts) (h3 : w'.ownsRow base 34 2 v' (L.length + 1) (cs ++ [.int .i64 k, .slice A' m c])) (hb : Below B w w') : TakAt w' base B v' (L ++ [⟨k, pts⟩]) := by
  have hcl : cs.length = L.length * 2 := h1.1
  refine ⟨_, by rw [List.length_append, List.length_singleton]; exact h3, fun j o ho => ?_⟩
  rcases Nat.lt_or_ge j L.length with hj | hj
  · rw [List.getElem?_append_left hj] at ho
    obtain ⟨A2, m2, c2, q1, q2, q3⟩ := h2 j o ho
    exact ⟨A2, m2, c2, by rw [List.getElem?_append_left (by omega)]; exact q1, by rw [List.getElem?_append_left (by omega)]; exact q2, q3.below hb⟩
  · rw [List.getElem?_append_right hj] at ho
    have hj0 : j = L.length := by
      rcases Nat.eq_or_lt_of_le hj with h | h
      · exact h.symm
      · rw [List.getElem?_eq_none (by simp; omega)] at ho; cases ho
    subst hj0
    simp at ho
    subst ho
    refine ⟨A', m, c, ?_, ?_, hp.below hb⟩
    · rw [List.getElem?_append_right (by omega), hcl, Nat.sub_self]; rfl
    · rw [List.getElem?_append_right (by omega), hcl, show L.length * 2 + 1 - L.length * 2 = 1 by omega]; rfl
theorem obs_of_tak {w : World} {base B : Nat} {v : Value} {L : List Ob} (h : TakAt w base B v L) (hB : B ≤ w.heap.size) : ∃ A c, v = .slice A L.length c ∧ ObsAt w w.heap.size A L.length L ∧ L.length ≤ c := by
  obtain ⟨cs, h1, h2⟩ := h
  have h1' := h1
  obtain ⟨hlen, ⟨rfl, h0⟩ | ⟨g, cap, cur, rfl, hg, hh, r⟩⟩ := h1
  · rw [h0]
    exact ⟨none, 0, rfl, ⟨h0, fun h => absurd h (by omega)⟩, Nat.le_refl _⟩
  · refine ⟨_, cap, rfl, ⟨rfl, fun hn => ⟨g, 0, rfl, ?_, fun k o ho => ?_⟩⟩, r.1⟩
    · rcases Nat.lt_or_ge g w.heap.size with h | h
      · exact h
      · rw [Array.getElem?_eq_none h] at hh; cases hh
    have hk : k < L.length := by
      rcases Nat.lt_or_ge k L.length with h | h
      · exact h
      · rw [List.getElem?_eq_none h] at ho; cases ho
    obtain ⟨A', m, c, q1, q2, q3⟩ := h2 k o ho
    refine ⟨A', m, c, ?_, ?_, pts_lift q3 hB⟩
    · rw [Nat.zero_add, h1'.cellAt (k * 2) (by omega)]
      exact q1
    · rw [Nat.zero_add, h1'.cellAt (k * 2 + 1) (by omega)]
      exact q2
theorem obs_one {w : World} {B b off n i : Nat} {L : List Ob} {o : Ob} (h : ObsAt w B (some ⟨b, off, none⟩) n L) (ho : L[i]? = some o) : ObsAt w B (some ⟨b, off + i * 2, none⟩) 1 [o] := by
  have hi : i < n := by
    rw [← h.1]
    rcases Nat.lt_or_ge i L.length with h | h
    · exact h
    · rw [List.getElem?_eq_none h] at ho; cases ho
  obtain ⟨b', off', e, hb, hc⟩ := h.2 (by omega)
  injection e with e
  injection e with e1 e2
  subst e1 e2
  refine ⟨rfl, fun _ => ⟨b, off + i * 2, rfl, hb, fun k x hx => ?_⟩⟩
  match k, hx with
  | 0, hx =>
    simp at hx
    subst hx
    obtain ⟨A', m, c, q1, q2, q3⟩ := hc i _ ho
    exact ⟨A', m, c, by simpa using q1, by simpa using q2, q3⟩
  | k + 1, hx => simp at hx

theorem obs_more {w : World} {B B' n : Nat} {A : Option Addr} {l : List Ob} (h : ObsAt w B A n l) (hB : B ≤ B') : ObsAt w B' A n l :=
  ⟨h.1, fun hn => by
    obtain ⟨b, off, e, hb, hc⟩ := h.2 hn
    refine ⟨b, off, e, by omega, fun k o ho => ?_⟩
    obtain ⟨A', m, c, h0, h1, h2⟩ := hc k o ho
    exact ⟨A', m, c, h0, h1, pts_lift h2 hB⟩⟩
theorem qus_more {w : World} {B B' n : Nat} {A : Option Addr} {l : List Qu} (h : QusAt w B A n l) (hB : B ≤ B') : QusAt w B' A n l :=
  ⟨h.1, fun hn => by
    obtain ⟨b, off, e, hb, hc⟩ := h.2 hn
    refine ⟨b, off, e, by omega, fun k o ho => ?_⟩
    obtain ⟨A', m, c, h0, h1, h2, h3, h4, h5, h6⟩ := hc k o ho
    exact ⟨A', m, c, h0, h1, h2, h3, h4, h5, pts_lift h6 hB⟩⟩
theorem rbs_more {w : World} {B B' n : Nat} {A : Option Addr} {l : List (List Nat)} (h : RbsAt w B A n l) (hB : B ≤ B') : RbsAt w B' A n l :=
  ⟨h.1, fun hn => by
    obtain ⟨b, off, e, hb, hc⟩ := h.2 hn
    refine ⟨b, off, e, by omega, fun k o ho => ?_⟩
    obtain ⟨A', m, c, h0, h1, h2⟩ := hc k o ho
    exact ⟨A', m, c, h0, h1.more hB, h2⟩⟩
/-- an own row of keys whose bytes lie below Bs -/
def RowsAt (w : World) (base Bs : Nat) (v : Value) (L : List (List Nat)) : Prop :=
  ∃ cs : List Value, w.ownsRow base 35 1 v L.length cs ∧ ∀ (k : Nat) (l : List Nat), L[k]? = some l → ∃ A' n c, cs[k]? = some (.slice A' n c) ∧ BysAt w Bs A' n l ∧ (A' = none → c = 0) ∧ n ≤ c
theorem rbs_of_rows {w : World} {base Bs : Nat} {v : Value} {L : List (List Nat)} (h : RowsAt w base Bs v L) (hB : Bs ≤ w.heap.size) : ∃ A c, v = .slice A L.length c ∧ RbsAt w w.heap.size A L.length L := by
  obtain ⟨cs, h1, h2⟩ := h
  have h1' := h1
  obtain ⟨hlen, ⟨rfl, h0⟩ | ⟨g, cap, cur, rfl, hg, hh, r⟩⟩ := h1
  · rw [h0]
    exact ⟨none, 0, rfl, h0, fun h => absurd h (by omega)⟩
  · refine ⟨_, cap, rfl, rfl, fun hn => ⟨g, 0, rfl, ?_, fun k l hl => ?_⟩⟩
    · rcases Nat.lt_or_ge g w.heap.size with h | h
      · exact h
      · rw [Array.getElem?_eq_none h] at hh; cases hh
    have hk : k < L.length := by
      rcases Nat.lt_or_ge k L.length with h | h
      · exact h
      · rw [List.getElem?_eq_none h] at hl; cases hl
    obtain ⟨A', n, c, q1, q2, q3, q4⟩ := h2 k l hl
    refine ⟨A', n, c, ?_, q2.more hB, q3, q4⟩
    rw [Nat.zero_add, h1'.cellAt k (by omega)]
    exact q1
theorem rows_lit {w : World} {g base Bs : Nat} (h : Blk w g 35 #[]) (hB : base ≤ g) : RowsAt w base Bs (.slice (some ⟨g, 0, none⟩) 0 0) [] := ⟨[], Blk.ownsU h hB, fun k l hl => by simp at hl⟩
theorem rbs_drop {w : World} {B b off n m : Nat} {L : List (List Nat)} (h : RbsAt w B (some ⟨b, off, none⟩) m L) (hn : n ≤ m) : RbsAt w B (some ⟨b, off + n, none⟩) (m - n) (L.drop n) := by
  refine ⟨by rw [List.length_drop, h.1], fun hp => ?_⟩
  obtain ⟨b', off', e, hb, hc⟩ := h.2 (by omega)
  injection e with e
  injection e with e1 e2
  subst e1 e2
  refine ⟨b, off + n, rfl, hb, fun k l hl => ?_⟩
  rw [List.getElem?_drop] at hl
  have := hc _ l hl
  rw [← Nat.add_assoc] at this
  exact this
theorem rbs_take {w : World} {B b off n m : Nat} {L : List (List Nat)} (h : RbsAt w B (some ⟨b, off, none⟩) m L) (hn : n ≤ m) : RbsAt w B (some ⟨b, off, none⟩) n (L.take n) := by
  refine ⟨by rw [List.length_take, h.1]; omega, fun hp => ?_⟩
  obtain ⟨b', off', e, hb, hc⟩ := h.2 (by omega)
  refine ⟨b', off', e, hb, fun k l hl => ?_⟩
  rw [List.getElem?_take] at hl
  split at hl
  · exact hc k l hl
  · cases hl
theorem rbs_pair {w : World} {g n1 c1 n2 c2 : Nat} {A1 A2 : Option Addr} {l1 l2 : List Nat} (h : Blk w g 35 #[.slice A1 n1 c1, .slice A2 n2 c2]) (h1 : BysAt w w.heap.size A1 n1 l1) (h2 : BysAt w w.heap.size A2 n2 l2) (z1 : A1 = none → c1 = 0) (z2 : A2 = none → c2 = 0) (k1 : n1 ≤ c1) (k2 : n2 ≤ c2) : RbsAt w w.heap.size (some ⟨g, 0, none⟩) 2 [l1, l2] := by
  refine ⟨rfl, fun _ => ⟨g, 0, rfl, h.lt, fun k l hl => ?_⟩⟩
  match k, hl with
  | 0, hl => simp at hl; subst hl; exact ⟨A1, n1, c1, by rw [h.cell]; rfl, h1, z1, k1⟩
  | 1, hl => simp at hl; subst hl; exact ⟨A2, n2, c2, by rw [h.cell]; rfl, h2, z2, k2⟩
  | k + 2, hl => simp at hl
theorem rows_app {o : Oper} {a : Act} {w : World} {K : Act → World → Prop} {Q : Exit → Act → World → Prop} (s x : Operand) (base Bs m c : Nat) (A : Option Addr) (v : Value) (L M : List (List Nat))
    (ho : o.op = .call { callee := .builtin .append, args := #[s, x], argTypes := #[31, 31] })
    (hs : a.eval s = v) (hL : RowsAt w base Bs v L) (hx : a.eval x = .slice A m c) (hA : ∃ b off, A = some ⟨b, off, none⟩) (hM : RbsAt w Bs A m M) (hBb : Bs ≤ base) (hB : base ≤ w.heap.size) (hm : L.length + m ≤ 1000000)
    (h : ∀ v' w', RowsAt w' base Bs v' (L ++ M) → Below base w w' → w.heap.size ≤ w'.heap.size → K (a.put o.dst v') w') : o.wp Tryz.prog a w K Q := by
  obtain ⟨i0, hi, iz0, iz1, iz2⟩ := info_parts Tryz.infoYsU
  obtain ⟨b, off, rfl⟩ := hA
  obtain ⟨cs, h1, h2⟩ := hL
  have hml : M.length = m := hM.1
  have key : ∀ k l, M[k]? = some l → ∃ A' n c, w.cell? ⟨b, off + k, none⟩ = some (.slice A' n c) ∧ BysAt w Bs A' n l ∧ (A' = none → c = 0) ∧ n ≤ c := fun k l hl => by
    have hk : k < M.length := by
      rcases Nat.lt_or_ge k M.length with h | h
      · exact h
      · rw [List.getElem?_eq_none h] at hl; cases hl
    obtain ⟨b', off', e, hb, hc⟩ := hM.2 (by omega)
    injection e with e
    injection e with e1 e2
    subst e1 e2
    exact hc k l hl
  obtain ⟨news, hnews⟩ : ∃ news, (List.range m).map (fun k => (w.cell? ⟨b, off + k, none⟩).getD .nilIface) = news := ⟨_, rfl⟩
  have hnl : news.length = m := by rw [← hnews]; simp
  have hat : ∀ k u, news[k]? = some u → w.cell? ⟨b, off + k, none⟩ = some u ∧ ∃ A' n c, u = .slice A' n c := fun k u hu => by
    have hk : k < m := by
      rw [← hnl]
      rcases Nat.lt_or_ge k news.length with h | h
      · exact h
      · rw [List.getElem?_eq_none h] at hu; cases hu
    obtain ⟨A', n, c, q1, _⟩ := key k _ (List.getElem?_eq_getElem (by omega))
    rw [← hnews, List.getElem?_map, List.getElem?_range hk] at hu
    simp only [Option.map_some, q1, Option.getD_some] at hu
    injection hu with hu
    subst hu
    exact ⟨q1, A', n, c, rfl⟩
  have hBm : Below base w w := Below.refl _ _
  refine wp_append_own w s x 31 ho base 35 i0 (.slice none 0 0) 1 24 Tryz.underlying31 hi iz0 iz1 iz2 rfl (by decide) v L.length cs hs h1 ⟨b, off, none⟩ m c news hx (by rw [hnl]; omega) ?_ ?_ (by unfold maxLen; omega) (by omega) hB ?_
  · intro j u hj
    have e : ((⟨b, off, none⟩ : Addr).add j) = ⟨b, off + j, none⟩ := by unfold Addr.add; split <;> simp_all
    rw [e]
    exact (hat j u hj).1
  · intro u hu
    obtain ⟨j, hj, e⟩ := List.getElem_of_mem hu
    obtain ⟨_, A', n, c, rfl⟩ := hat j u (by rw [List.getElem?_eq_getElem hj, e])
    rfl
  · intro v' w' hown hgr _
    have hbw : Below base w w' := (Below.refl _ _).grown hgr hB (fun k hk => (h1.lt k hk).1)
    have hcl : cs.length = L.length := by rw [h1.1]; omega
    refine h v' w' ⟨cs ++ news, by rw [List.length_append, hml]; exact hown, fun k l hl => ?_⟩ hbw hgr.size
    rcases Nat.lt_or_ge k L.length with hk | hk
    · rw [List.getElem?_append_left hk] at hl
      obtain ⟨A', n, c, q1, q2, q3⟩ := h2 k l hl
      exact ⟨A', n, c, by rw [List.getElem?_append_left (by omega)]; exact q1, q2.below (hbw.mono hBb), q3⟩
    · rw [List.getElem?_append_right hk] at hl
      obtain ⟨A', n, c, q1, q2, q3⟩ := key _ l hl
      have hk2 : k - L.length < M.length := by
        rcases Nat.lt_or_ge (k - L.length) M.length with h | h
        · exact h
        · rw [List.getElem?_eq_none h] at hl; cases hl
      refine ⟨A', n, c, ?_, q2.below (hbw.mono hBb), q3⟩
      rw [List.getElem?_append_right (by omega), hcl, ← hnews, List.getElem?_map, List.getElem?_range (by omega)]
      simp only [Option.map_some, q1, Option.getD_some]
end Go.Proofs.YtahiaekoaokgnaaGreat

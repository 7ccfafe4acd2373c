/-
  The split's sort of the places.
-/
import Derived.Test.YtmaogalgganhgaaSplA
import Derived.Test.YtmaogalgganhgaaSrtI
set_option linter.unusedSimpArgs false
set_option linter.unusedVariables false
namespace Go.Proofs.Ytmaogalgganhgaa
open Go.RowKit Pg

theorem grow_of_gr {w w' : World} (h : Gr w.heap.size w w') : ∃ q os', w' = Go.Sort.grow (w.drewN q) os' := by
  obtain ⟨⟨ho, ht, hu, hs, hb⟩, hd⟩ := h
  refine ⟨w'.drawn - w.drawn, w'.heap.extract w.heap.size w'.heap.size, ?_⟩
  obtain ⟨H, T, D, O, U⟩ := w
  obtain ⟨H', T', D', O', U'⟩ := w'
  simp only at ho ht hu hs hb hd
  subst ho ht hu
  unfold Go.Sort.grow World.drewN
  simp only
  have e1 : D + (D' - D) = D' := by omega
  rw [e1]
  congr 1
  apply Array.ext_getElem?
  intro k
  rcases Nat.lt_or_ge k H.size with h | h
  · rw [hb k h, Array.getElem?_append_left h]
  · rw [Array.getElem?_append_right h, Array.getElem?_extract]
    split
    · congr 1; omega
    · rw [Array.getElem?_eq_none (by omega)]

section
variable {α : Type} [Inhabited α] {enc : α → Value}
theorem sw_heap (w : World) (pb m : Nat) (dk : Array α) (os : Array Obj) (hp : pb < w.heap.size) {k : Nat} (hk : k ≠ pb) (hk2 : k < w.heap.size) :
    (sortWorld enc w pb 0 m dk os).heap[k]? = w.heap[k]? := by
  unfold sortWorld
  rw [Go.Sort.heap_grow_old _ _ (by simpa using hk2)]
  unfold Go.Sort.putRow Go.Sort.mapBlock
  simp only [Go.Sort.heap_ahead]
  rw [Array.getElem?_modify, if_neg (Ne.symm hk)]
theorem sw_below (w : World) (pb m : Nat) (dk : Array α) (os : Array Obj) (hp : pb < w.heap.size) : Below pb w (sortWorld enc w pb 0 m dk os) :=
  ⟨rfl, rfl, rfl, by unfold sortWorld; simp, fun k hk => sw_heap w pb m dk os hp (by omega) (by omega)⟩
theorem sw_blk (w : World) (pb m : Nat) (dk : Array α) (os : Array Obj) (t : TypeId) (cs : Array Value) (hp : Blk w pb t cs) (hs : cs.size = dk.size) : Blk (sortWorld enc w pb 0 m dk os) pb t (dk.map enc) := by
  have hlt := hp.lt
  unfold Blk at hp ⊢
  unfold sortWorld
  rw [Go.Sort.heap_grow_old _ _ (by simpa using hlt)]
  unfold Go.Sort.putRow Go.Sort.mapBlock
  simp only [Go.Sort.heap_ahead]
  rw [Array.getElem?_modify, if_pos rfl, hp]
  simp only [Option.map_some, Go.Sort.onCells]
  congr 2
  unfold Go.Sort.putCells
  apply Array.ext
  · simp [hs]
  · intro i h1 h2
    have h3 : i < dk.size := by simpa using h2
    simp [h3]
end
theorem fin_list (n : Nat) : (List.finRange n).map (fun i => i.val) = List.range n := by
  apply List.ext_getElem
  · simp
  · intro i h1 h2
    simp

set_option maxHeartbeats 1000000 in
theorem sort_any (n pb gb B cap : Nat) (A : Option Addr) (l : List Bx) (t : TypeId) (w : World) (hn : 0 < n) (hn2 : n ≤ 1000000) (hl : BxsAt w B A n l) (hB : B ≤ pb) (hg : w.cell? ⟨gb, 0, none⟩ = some (.slice A n cap)) (hgp : gb < pb)
    (hok : ∀ b ∈ l, okBx b = true ∨ b = bzero) (hp : Blk w pb t ((List.range n).map fun j => Value.int .i64 (j : Nat)).toArray) :
    Calls Try.prog 39 #[.slice (some ⟨pb, 0, none⟩) n n, .func (.func 40) #[] #[.pointer (some ⟨gb, 0, none⟩)]] w fun e w' =>
      e = .returned (.tuple #[]) ∧ ∃ d : List Nat, d.Perm (List.range n) ∧ d.Pairwise (fun i k => ahd l i k = true) ∧ Blk w' pb t (d.map fun j => Value.int .i64 (j : Nat)).toArray ∧ Below pb w w' := by
  haveI : Inhabited (Fin n) := ⟨⟨0, hn⟩⟩
  have hpl := hp.lt
  have hlen : l.length = n := hl.1
  have hO : Go.Sort.SWO (ltOf fun x y : Fin n => cmpS l x y) := ⟨fun x => by unfold ltOf; rw [cmpS_lt, ahd_irrefl], fun x y z h1 h2 => by
      unfold ltOf at *
      rw [cmpS_lt] at *
      exact ahd_trans h1 h2, fun x y z h1 h2 => by
      unfold ltOf at *
      rw [cmpS_lt] at *
      cases h3 : ahd l x z
      · rfl
      · exfalso
        cases h4 : ahd l y x
        · have := ahd_total h1 h4
          rw [this] at h3
          rw [h3] at h2
          cases h2
        · rw [ahd_trans h4 h3] at h2
          cases h2⟩
  have hT : ∀ x y : Fin n, ltOf (fun x y : Fin n => cmpS l x y) x y = false → ltOf (fun x y : Fin n => cmpS l x y) y x = false → x = y := fun x y h1 h2 => by
    unfold ltOf at *
    rw [cmpS_lt] at *
    exact Fin.ext (ahd_total h1 h2)
  have hH : Go.Sort.Holds (fun i : Fin n => Value.int .i64 (i.val : Nat)) w pb 0 (List.finRange n).toArray := fun j hj => by
    have hj2 : j < n := by simpa using hj
    have e : (List.finRange n).toArray[j]! = ⟨j, hj2⟩ := by
      rw [getElem!_pos (List.finRange n).toArray j hj]
      simp
    rw [hp.cell, hp.frozen]
    refine ⟨?_, rfl⟩
    rw [e]
    simp [hj2]
  have h := Any.slices_SortFunc_total Try.sortInt (fun i : Fin n => Value.int .i64 (i.val : Nat)) (fun _ => rfl) (fun x y => cmpS l x y) hO 40 #[.pointer (some ⟨gb, 0, none⟩)] pb 0 n (List.finRange n).toArray w
    (enters_of Try.func40 (by kernel_rfl) rfl) (fun m os dk hs x y => by
      have hsz : w.heap.size ≤ (sortWorld (fun i : Fin n => Value.int .i64 (i.val : Nat)) w pb 0 m dk os).heap.size := (sw_below w pb m dk os hpl).size
      have hc : ∀ p : Addr, p.block < pb → (sortWorld (fun i : Fin n => Value.int .i64 (i.val : Nat)) w pb 0 m dk os).cell? p = w.cell? p := fun p hp => (sw_below w pb m dk os hpl).cell hp
      exact (less_any gb B n cap A l x.val y.val _ (hl.keep fun p hp => hc p (by omega)) (by omega) ((hc _ hgp).trans hg) (by omega) x.isLt y.isLt hn2 hok).mono fun e w' ⟨h1, h2⟩ => ⟨h1, grow_of_gr h2⟩)
    hH hpl (by simp; omega) hT
  have es : (List.finRange n).toArray.size = n := by simp
  rw [es] at h
  refine h.mono ?_
  rintro e w' ⟨rfl, m, os, rfl⟩
  refine ⟨rfl, (((List.finRange n).mergeSort fun x y => !(ltOf fun x y : Fin n => cmpS l x y) y x)).map (fun i => i.val), ?_, ?_, ?_, sw_below w pb m _ os hpl⟩
  · have := (List.mergeSort_perm (List.finRange n) fun x y => !(ltOf fun x y : Fin n => cmpS l x y) y x).map fun i : Fin n => i.val
    rwa [fin_list] at this
  · rw [List.pairwise_map]
    have h1 : ((List.finRange n).mergeSort fun x y => !(ltOf fun x y : Fin n => cmpS l x y) y x).Pairwise (fun x y => (!(ltOf fun x y : Fin n => cmpS l x y) y x) = true) :=
      List.pairwise_mergeSort (fun a b c h1 h2 => by
        simp only [Bool.not_eq_true'] at *
        exact hO.ntrans _ _ _ h2 h1) (fun a b => by
        cases h1 : ltOf (fun x y : Fin n => cmpS l x y) b a
        · simp
        · have : ltOf (fun x y : Fin n => cmpS l x y) a b = false := by
            unfold ltOf at *
            rw [cmpS_lt] at *
            exact ahd_asymm h1
          simp [this]) _
    have h2 : ((List.finRange n).mergeSort fun x y => !(ltOf fun x y : Fin n => cmpS l x y) y x).Nodup := (List.mergeSort_perm _ _).nodup_iff.2 (List.nodup_finRange n)
    refine (List.Pairwise.and h1 h2).imp fun {a b} h => ?_
    obtain ⟨h3, h4⟩ := h
    simp only [Bool.not_eq_true'] at h3
    cases h5 : ahd l a b
    · have h6 : ltOf (fun x y : Fin n => cmpS l x y) a b = false := by unfold ltOf; rw [cmpS_lt, h5]
      exact absurd (hT _ _ h6 h3) h4
    · rfl
  · have := sw_blk (enc := fun i : Fin n => Value.int .i64 (i.val : Nat)) w pb m ((List.finRange n).mergeSort fun x y => !(ltOf fun x y : Fin n => cmpS l x y) y x).toArray os t _ hp (by simp)
    simpa [List.map_map, Function.comp_def] using this
end Go.Proofs.Ytmaogalgganhgaa

/-
  join: no tree;Self of a tree that may be none.
  join: the root of an id in a map of ids;rows of numbers in a map,rows of rows.
-/
import Derived.Test.YtcbjmcnebmhgpaaGreatKJoiB
import Derived.Test.YtcbjmcnebmhgpaaGreatKPlainCls
set_option linter.unusedVariables false
set_option linter.unusedSimpArgs false
set_option maxHeartbeats 1000000
set_option maxRecDepth 20000
namespace Go.Proofs.YtcbjmcnebmhgpaaGreat
open Go Go.RowKit Pg
theorem JSelfT_any {w : World} {p : Option Addr} {xa : List (Int × Ob)} (h : ∀ W,Below w.heap.size w W → Told W p xa) (hn : xa.length ≤ 100) :
 Calls Tryz.prog 15 #[.pointer p] w fun e w' => ∃ v,e = .returned (.tuple #[v,.nilIface]) ∧ w'.ownsRow w.heap.size 38 2 v (upJ (pairsP xa xa)).length (prcells (upJ (pairsP xa xa))) ∧ Below w.heap.size w w' := by
 have hlen : (pairsP xa xa).length ≤ 1000000 := by
  have h1 := pairsP_len xa xa;have h3 : xa.length * xa.length ≤ 100 * 100 := Nat.mul_le_mul hn hn
  omega
 have HPr := Lib.hid (fun W (hW : Below w.heap.size w W) => JPairsT_any (h W hW) (h W hW) hn hn)
 generalize pairsP xa xa = P at *;have HDl := Lib.hid (fun base v W (hr : W.ownsRow base 38 2 v P.length (prcells P)) => sdelP_any base P v P.length W hr hlen)
 clear h hn hlen
 go_enter Tryz.func15,Tryz.ntmps15
 go_wp2_with (first
  | (go_at_call 10;(refine (HPr.out _ bel).mono ?_);rintro e w2 ⟨v2,rfl,ho2,hb2⟩;have HO2 := Lib.hid (And.intro ho2 (show Below w.heap.size w w2 from bel));clear ho2 hb2)
  | (go_at_call 29;(refine (HDl.out _ _ _ HO2.out.1).mono ?_);rintro e w3 ⟨v3,rfl,ho3,hg3⟩;have H3 := Lib.hid (And.intro ho3 hg3);clear ho3 hg3))
 go_ret2
 exact ⟨_,rfl,H3.out.1,HO2.out.2.grown H3.out.2 HO2.out.2.size fun k e => (HO2.out.1.lt k e).1⟩
end Go.Proofs.YtcbjmcnebmhgpaaGreat
namespace Pg
open Go Go.RowKit
def FV (F : List (Int × Int)) : List (Int × Value) := F.map fun p => (p.1,.int .i64 p.2)
theorem getK_FV (i : Int) : ∀ F : List (Int × Int),getK i (FV F) = (getK i F).map fun j => .int .i64 j
 | [] => rfl
 | p :: r => by
   show getK i ((p.1, .int .i64 p.2) :: FV r) = _
   rw [getK_cons, getK_cons, getK_FV i r]
   split <;> rfl
theorem delK_FV (i : Int) : ∀ F : List (Int × Int),delK i (FV F) = FV (delK i F)
 | [] => rfl
 | p :: r => by
   show delK i ((p.1, .int .i64 p.2) :: FV r) = _
   unfold delK
   rw [List.filter_cons, List.filter_cons]
   have := delK_FV i r;unfold delK at this
   rw [this]
   by_cases h : p.1 = i <;> simp [h,FV]
theorem putK_FV (i v : Int) (F : List (Int × Int)) : putK i (.int .i64 v) (FV F) = FV (putK i v F) := by
 unfold putK
 rw [delK_FV]
 exact insK_map (fun j : Int => Value.int .i64 j) i v (delK i F)
theorem FV_len (F : List (Int × Int)) : (FV F).length = F.length := by unfold FV;rw [List.length_map]
end Pg
namespace Go.Proofs.YtcbjmcnebmhgpaaGreat
open Go Go.RowKit Pg
theorem Tryz.zeroIJ (w : World) : (zeroValue 3).run Tryz.prog w = .ok (.int .i64 0) w := by kernel_rfl
theorem Tryz.zeroSJ (w : World) : (zeroValue 40).run Tryz.prog w = .ok (.slice none 0 0) w := by kernel_rfl
theorem Tryz.infoSJ : (Tryz.prog.info? 40).map (fun i => (i.zero,i.size,i.bytes)) = some (some (.slice none 0 0),1,24) := by kernel_rfl
theorem Tryz.infoNJ : (Tryz.prog.info? 3).map (fun i => (i.zero,i.size,i.bytes)) = some (some (.int .i64 0),1,8) := by kernel_rfl
theorem root_any (fc fm : Nat) (F : List (Int × Int)) (ids : List Int) (cc : Int → Int) (id : Int) (w : World) (hc : w.cell? ⟨fc,0,none⟩ = some (.map (some fm))) (hl : fc < w.heap.size) (hM : MapAt w Tryz.prog 3 fm (FV F)) (hU : UfP F ids cc) (hb : ∀ i ∈ ids,0 ≤ i ∧ i ≤ 1099511627776) (hid : id ∈ ids) :
 Calls Tryz.prog 27 #[.int .i64 id,.pointer (some ⟨fc,0,none⟩)] w (Ret w (.int .i64 (cc id))) := by
 have HM := Lib.hid hM;have HU := Lib.hid hU;have HI := Lib.hid hb;clear hM hU hb
 go_enter Tryz.func27,Tryz.ntmps27
 go_wp2_with fail
 go_loopw [0] (fun v0 wr => ∃ i : Int,v0 = .int .i64 i ∧ i ∈ ids ∧ cc i = cc id ∧ Below w.heap.size w wr) (fun v0 _ => (Go.RowKit.intOf v0).toNat)
 case atStart => exact ⟨id,rfl,hid,rfl,Below.refl _ _⟩
 case round =>
  clear hid;obtain ⟨i,rfl,hi,hcc,hb⟩ := hrel;obtain ⟨j,hj,hji,hle,hcj,he⟩ := HU.out.at_ i hi;have hi0 : -9223372036854775808 ≤ i := by have := HI.out i hi;omega
  have hi1 : i ≤ 9223372036854775807 := by have := HI.out i hi;omega
  have hjn := (HI.out j hji).1;have HG : Hid (getK i (FV F) = some (.int .i64 j)) := Lib.hid (by rw [getK_FV,hj];rfl)
  have HMr := Lib.hid (MapAt.tr HM.out hb);have HB := Lib.hid hb;obtain ⟨hcb,hfb⟩ := bcell hb;have hz := hb.size;have hc' := (hcb _ 0 hl).trans hc;have hl' : fc < wr.heap.size := by omega
  have HX := Lib.hid (And.intro hji (And.intro hcj he));clear hj hi hji hcj he hb hcb hfb
  by_cases hne : j = i
  case pos =>
   have HE : Hid (cc i = i) := Lib.hid (HX.out.2.2 hne);have hq : (j == i) = true := by rw [beq_iff_eq];exact hne
   clear hne
   go_wp2_with (at_lookup;go_must (refine wpList_lookV1 _ rfl _ _ _ rfl rfl rfl (show MapO _ _ _ (some fm) _ from HMr.out) Tryz.underlying3 Tryz.underlying78 (Tryz.zeroIJ _) hi0 hi1 ?_;rw [HG.out];simp only [Option.getD_some]))
   go_ret;exact ⟨by rw [← hcc,HE.out];rfl,HB.out⟩
  case neg =>
   have hq : (j == i) = false := by rw [beq_eq_false_iff_ne];exact hne
   have hlt : j < i := by omega
   clear hne
   go_wp2_with (at_lookup;go_must (refine wpList_lookV1 _ rfl _ _ _ rfl rfl rfl (show MapO _ _ _ (some fm) _ from HMr.out) Tryz.underlying3 Tryz.underlying78 (Tryz.zeroIJ _) hi0 hi1 ?_;rw [HG.out];simp only [Option.getD_some]))
   go_roundw
   case rel => exact ⟨j, rfl, HX.out.1, by rw [HX.out.2.1, hcc], HB.out⟩
   case measure => simp [Go.RowKit.intOf];omega
def RowsJ (w : World) (base : Nat) (v : Value) (gs : List (List Int)) : Prop :=
 ∃ vs : List Value,w.ownsRow base 40 1 v gs.length vs ∧ ∀ (k : Nat) (g : List Int),gs[k]? = some g → ∃ u,vs[k]? = some u ∧ w.ownsRow base 3 1 u g.length (idcs g)
theorem RowsJ.at_ {w : World} {base : Nat} {v : Value} {gs : List (List Int)} (h : RowsJ w base v gs) {k : Nat} {g : List Int} (hk : gs[k]? = some g) :
 ∃ b c A c',v = .slice (some ⟨b,0,none⟩) gs.length c ∧ b < w.heap.size ∧ w.cell? ⟨b,k,none⟩ = some (.slice A g.length c') ∧ w.ownsRow base 3 1 (.slice A g.length c') g.length (idcs g) := by
 obtain ⟨vs,h1,h2⟩ := h;obtain ⟨u,hu,ho⟩ := h2 k g hk;obtain ⟨A,c',rfl,_,_,_⟩ := row_form ho;have hkl := (List.getElem?_eq_some_iff.1 hk).1
 rcases h1.2 with ⟨_,h0⟩ | ⟨b,cap,cur,rfl,_,hg,_⟩
 · omega
 · have hc := h1.cellAt k (by omega)
   rw [hu] at hc;exact ⟨b,cap,A,c',rfl,(Array.getElem?_eq_some_iff.1 hg).1,hc,ho⟩
structure GpM (w : World) (base gm : Nat) (V : List (Int × Value)) (R : Int → List Int) : Prop where
 map : MapAt w Tryz.prog 3 gm V
 rise : Rising V
 row : ∀ r,w.ownsRow base 3 1 ((getK r V).getD (.slice none 0 0)) (R r).length (idcs (R r))
 ne : ∀ r s g,r ≠ s → ((getK r V).getD (.slice none 0 0)).ownBlock = some g → ((getK s V).getD (.slice none 0 0)).ownBlock ≠ some g
section
variable {w w1 w2 : World} {base gm : Nat} {V : List (Int × Value)} {R : Int → List Int}
theorem GpM.start (h : MapAt w Tryz.prog 3 gm []) : GpM w base gm [] fun _ => [] :=
 ⟨h,List.Pairwise.nil,fun r => World.ownsRow_nil _ _ _ _,fun r s g _ h => by simp [getK_nil,Value.ownBlock] at h⟩
theorem GpM.tr (h : GpM w base gm V R) (hb : Below w.heap.size w w1) : GpM w1 base gm V R :=
 ⟨MapAt.tr h.map hb,h.rise,fun r => own_kept (h.row r) (grown_below hb) (by simp),h.ne⟩
theorem GpM.off (h : GpM w base gm V R) {b' size n : Nat} {e : TypeId} {v : Value} {xs : List Value} (ho : w.ownsRow b' e size v n xs) (he : 3 ≠ e) (hg : w.grownBy w1 v.ownBlock) : GpM w1 base gm V R :=
 ⟨MapAt.kept h.map hg (own_map h.map ho),h.rise,fun r => own_kept (h.row r) hg (fun g e' => by obtain ⟨cur,hB⟩ := own_blk ho e';exact own_ne (h.row r) hB he),h.ne⟩
theorem GpM.step (h : GpM w base gm V R) (hbase : base ≤ w.heap.size) {r d : Int} {v' : Value} (hown : w1.ownsRow base 3 1 v' ((R r).length + 1) (idcs (R r) ++ [.int .i64 d]))
 (hg : w.grownBy w1 ((getK r V).getD (.slice none 0 0)).ownBlock) (hwh : v'.ownBlock = ((getK r V).getD (.slice none 0 0)).ownBlock ∨ v'.ownBlock = some w.heap.size) (hst : MapAt w2 Tryz.prog 3 gm (putK r v' V)) (hgm : MapAt w1 Tryz.prog 3 gm V) (hg2 : w1.grownBy w2 (some gm)) :
 GpM w2 base gm (putK r v' V) fun s => if s = r then R r ++ [d] else R s := by
 have hlt : ∀ s g,((getK s V).getD (.slice none 0 0)).ownBlock = some g → g < w.heap.size := fun s g e => ((h.row s).lt g e).2
 refine ⟨hst,h.rise.put _ _,fun s => ?_,fun s t g hne e => ?_⟩
 · rw [get_put h.rise]
   by_cases e : s = r
   · rw [if_pos e, if_pos e, Option.getD_some, List.length_append]
     refine own_kept ?_ hg2 fun g e' => by injection e' with e';subst e';exact own_map hgm hown
     unfold idcs
     rw [List.map_append]
     exact hown
   · rw [if_neg e, if_neg e]
     have h1 := own_kept (h.row s) hg fun g e' => h.ne r s g (fun q => e q.symm) e'
     exact own_kept h1 hg2 fun g e' => by injection e' with e';subst e';exact own_map hgm h1
 · rw [get_put h.rise] at e ⊢
   by_cases h1 : s = r
   · rw [if_pos h1, Option.getD_some] at e
     rw [if_neg (fun q => hne (h1.trans q.symm))]
     intro e2
     rcases hwh with q | q
     · rw [q] at e
       exact h.ne r t g (fun q => hne (h1.trans q)) e e2
     · rw [q] at e
       injection e with e
       have := hlt t g e2
       omega
   · rw [if_neg h1] at e
     by_cases h2 : t = r
     · rw [if_pos h2, Option.getD_some]
       intro e2
       rcases hwh with q | q
       · rw [q] at e2
         exact h.ne s r g h1 e e2
       · rw [q] at e2
         injection e2 with e2
         have := hlt s g e
         omega
     · rw [if_neg h2]
       exact h.ne s t g hne e
end
end Go.Proofs.YtcbjmcnebmhgpaaGreat

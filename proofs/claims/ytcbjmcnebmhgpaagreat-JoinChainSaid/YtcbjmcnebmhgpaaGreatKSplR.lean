/-
  Contract of the reference's SplitKeys;the reference's Make.
-/
import Derived.Test.YtcbjmcnebmhgpaaGreatKSplA
import Derived.Test.YtcbjmcnebmhgpaaGreatKEncH
import Derived.Test.YtcbjmcnebmhgpaaGreatKOpcA
set_option linter.unusedVariables false
set_option linter.unusedSimpArgs false
set_option maxHeartbeats 8000000
set_option maxRecDepth 20000
namespace Go.Proofs.YtcbjmcnebmhgpaaGreat
open Go.RowKit Pg
theorem bx_small {l : List Bx} (h : ∀ b ∈ l,okBx b = true ∨ b = bzero) (k : Nat) : (-1073741824 ≤ (bx l k).lo.x ∧ (bx l k).lo.x ≤ 1073741824) ∧ (-1073741824 ≤ (bx l k).lo.y ∧ (bx l k).lo.y ≤ 1073741824) ∧ (-1073741824 ≤ (bx l k).hi.x ∧ (bx l k).hi.x ≤ 1073741824) ∧ (-1073741824 ≤ (bx l k).hi.y ∧ (bx l k).hi.y ≤ 1073741824) := by
 apply small_bx
 rcases Nat.lt_or_ge k l.length with hk | hk
 · exact h _ (List.mem_of_getElem? (bx_of hk))
 · right
   unfold bx
   rw [List.getD_eq_getElem?_getD, List.getElem?_eq_none hk]
   rfl
def cntS (l : List Bx) (i k : Nat) : Nat := (List.range k).countP fun j => ahd l j i
theorem cntS_succ (l : List Bx) (i k : Nat) : cntS l i (k + 1) = cntS l i k + (if ahd l k i then 1 else 0) := by
 unfold cntS
 rw [List.range_succ,List.countP_append]
 simp [List.countP_cons]
theorem cntS_le (l : List Bx) (i k : Nat) : cntS l i k ≤ k := by
 unfold cntS;exact Nat.le_trans List.countP_le_length (by simp)
theorem ahd_eq (l : List Bx) (k i : Nat) {x y : Int} (hx : cX (bx l k) - (bx l i).lo.x - (bx l i).hi.x = x) (hy : cY (bx l k) - (bx l i).lo.y - (bx l i).hi.y = y) :
 ahd l k i = (decide (x < 0) || (decide (x = 0) && (decide (y < 0) || (decide (y = 0) && decide (k < i))))) := by
 have e1 : decide (cX (l.getD k bzero) < cX (l.getD i bzero)) = decide (x < 0) := by rw [decide_eq_decide];unfold cX bx at *;omega
 have e2 : decide (cX (l.getD k bzero) = cX (l.getD i bzero)) = decide (x = 0) := by rw [decide_eq_decide];unfold cX bx at *;omega
 have e3 : decide (cY (l.getD k bzero) < cY (l.getD i bzero)) = decide (y < 0) := by rw [decide_eq_decide];unfold cY bx at *;omega
 have e4 : decide (cY (l.getD k bzero) = cY (l.getD i bzero)) = decide (y = 0) := by rw [decide_eq_decide];unfold cY bx at *;omega
 unfold ahd
 rw [e1,e2,e3,e4]
theorem rSplit_any (B n c : Nat) (A : Option Addr) (L : List (List Nat)) (w : World) (hl : RbsAt w B A n L) (hB : B ≤ w.heap.size) (hn2 : n ≤ 1000000) (h256 : ∀ l ∈ L,∀ x ∈ l,x < 256) (hlen : ∀ l ∈ L,l.length ≤ 1000000) :
 Calls Tryz.prog 165 #[.slice A n c] w fun e w' => ∃ g,e = .returned (.slice (some ⟨g,0,none⟩) n n) ∧ Blk w' g 4 ((splitS (L.map boxK)).map Value.bool).toArray ∧ Below w.heap.size w w' := by
 have HM := make_b n hn2;obtain ⟨V,hV⟩ : ∃ V,splitS (L.map boxK) = V := ⟨_,rfl⟩
 rw [hV]
 have HV := Lib.hid hV;have hLn := hl.1;have HL := Lib.hid hl;have H256 := Lib.hid h256;have HLN := Lib.hid hlen;obtain ⟨i0,hi,iz0,iz1,iz2⟩ := info_parts Tryz.infoBox;clear hV hl h256 hlen
 go_enter Tryz.func165,Tryz.ntmps165
 go_wp2_with fail
 go_loopw [3,4] (fun vl vi wr => ∃ (k : Nat),k ≤ n ∧ vi = .int .i64 k ∧ wr.ownsRow w.heap.size 73 4 vl k (bcells ((L.take k).map boxK)) ∧ Below w.heap.size w wr) (fun _ vi _ => n - (intOf vi).toNat)
 case atStart => exact ⟨0,by omega,rfl,World.ownsRow_nil _ _ _ _,bel⟩
 case round =>
  obtain ⟨k,hk,rfl,hown,hb⟩ := hrel
  by_cases hlt : k < n
  · obtain ⟨b, off, A', n', c', rfl, hab, hcell, hby, he, hz, hnc⟩ := (HL.out.below (hb.mono hB)).at_ hlt
    have hmem : L.getD k [] ∈ L := List.mem_of_getElem? he;have hn' : n' ≤ 1000000 := by rw [← hby.1];exact HLN.out _ hmem
    obtain ⟨q,hq⟩ := unkeyV_box (L.getD k [])
    have hst : (L.take (k + 1)).map boxK = (L.take k).map boxK ++ [boxK (L.getD k [])] := by
     rw [List.take_add_one, he]
     simp
    obtain ⟨p,hp⟩ : ∃ p,boxK (L.getD k []) = p := ⟨_,rfl⟩;rw [hp] at hq hst;have hBw : B ≤ wr.heap.size := Nat.le_trans hB hb.size
    have HU : Hid (∀ w',Below wr.heap.size wr w' → Calls Tryz.prog 170 #[.slice A' n' c'] w' (Ret w' (.tuple #[bxV p.lo.x p.lo.y p.hi.x p.hi.y,.bool q]))) := fun w' h => by
     have h2 := runkey_any B n' c' A' (L.getD k []) w' (hby.tr h hBw) (H256.out _ hmem) (Nat.le_trans hBw h.size) hn' hnc hz;rw [hq] at h2;exact h2
    have hbw : b < wr.heap.size := by omega
    have hk0 : (k : Int) < (n : Int) := by omega
    clear hp hq hby he hmem
    go_wp2_with (first | (go_at_call 170;(with_reducible refine (HU.out _ bel).mono ?_);rintro e w1 ⟨rfl,hb1⟩;obtain ⟨hc1,hf1⟩ := bcell hb1;have hz1 := hb1.size;(try simp at hz1)) | (at_builtin;go_must (refine wpList_append_own _ rfl _ _ 71 rfl w.heap.size 73 i0 (.agg #[.int .i64 0,.int .i64 0,.int .i64 0,.int .i64 0]) 4 32 Tryz.underlying71 hi iz0 iz1 iz2 rfl (by decide) _ _ _ rfl (ownB_below hown bel) ⟨w1.heap.size + 1,0,none⟩ 1 1 [.int .i64 p.lo.x,.int .i64 p.lo.y,.int .i64 p.hi.x,.int .i64 p.hi.y] rfl rfl ?c1 ?c2 ?c3 ?c4 ?c5 ?_)))
    case c1 =>
     intro j u hj
     match j, hj with
     | 0,hj => simp at hj;subst hj;simp [Addr.add]
     | 1,hj => simp at hj;subst hj;simp [Addr.add]
     | 2,hj => simp at hj;subst hj;simp [Addr.add]
     | 3,hj => simp at hj;subst hj;simp [Addr.add]
    case c2 => intro u hu;simp only [List.mem_cons,List.not_mem_nil,or_false] at hu;rcases hu with rfl | rfl | rfl | rfl <;> rfl
    case c3 => unfold maxLen;omega
    case c4 => omega
    case c5 => have := hb.size;simp;omega
    intro v' w2 hown' hgrow _;have hlt' := hown.lt;have hb2 : Below w.heap.size w w2 := Below.grown (w := _) bel hgrow (by have := hb.size;simp;omega) (fun j e => by have := (hlt' j e).1;omega)
    have hown2 : w2.ownsRow w.heap.size 73 4 v' (k + 1) (bcells ((L.take (k + 1)).map boxK)) := by
     rw [hst, bcells_snoc, List.map_take]
     exact hown'
    clear hown' hgrow hown hlt';go_wp2
    go_roundw
    case rel => exact ⟨k + 1, by omega, by go_num, hown2, hb2⟩
    case measure => simp [intOf];omega
  · obtain rfl : n = k := by omega
    rw [List.take_of_length_le (by omega)] at hown
    have hLn2 : (L.map boxK).length = n := by simp [hLn]
    obtain ⟨A2,c2,rfl,hbx⟩ := bxs_of_own hown hLn2
    have hokL : ∀ b ∈ L.map boxK,okBx b = true ∨ b = bzero := fun b hb => by
     obtain ⟨r,hr,rfl⟩ := List.mem_map.1 hb;exact boxK_ok (H256.out r hr)
    have HBX := Lib.hid hbx;have HOK := Lib.hid hokL;clear hlt hk HL H256 HLN hLn hown hokL hbx;generalize L.map boxK = l at *;obtain ⟨m2,hm2⟩ : ∃ m,n / 2 = m := ⟨_,rfl⟩;obtain ⟨h2,hh2⟩ : ∃ m,n - m2 = m := ⟨_,rfl⟩;obtain ⟨G,hG⟩ : ∃ G,wr.heap.size = G := ⟨_,rfl⟩;rw [hG] at HBX;have q1 : (n : Int).tdiv 2 = (m2 : Int) := by rw [← hm2];rfl
    have q2 : (n : Int) / 2 = (m2 : Int) := by omega
    have q3 : (n : Int) - (m2 : Int) = (h2 : Int) := by omega
    have q4 : IntKind.i64.wrap (m2 : Int) = m2 := by simp [IntKind.wrap,IntKind.bits,IntKind.signed];omega
    have q5 : IntKind.i64.wrap (h2 : Int) = h2 := by simp [IntKind.wrap,IntKind.bits,IntKind.signed];omega
    have HQ := Lib.hid (show h2 = l.length - l.length / 2 by rw [hLn2];omega)
    have hbG := hb.size;rw [hG] at hbG;go_wp2_with fail
    try rw [hG]
    go_loopw [8] (fun vi w3 => ∃ i : Nat, i ≤ n ∧ vi = .int .i64 i ∧ Blk w3 G 4 (ocl (fun j => decide (j < i) && decide (h2 ≤ rank l j)) n).toArray ∧ BxsAt w3 G A2 n l ∧ Below w.heap.size w w3) (fun vi _ => n - (intOf vi).toNat)
    case atStart =>
     subst hG;exact ⟨0,by omega,rfl,by simpa using (Blk.new rfl rfl),HBX.out.below bel,bel⟩
    case round =>
     clear hG HBX hb hm2 hh2;obtain ⟨i,hi0,rfl,hO,hX,hbb⟩ := hrel
     by_cases hlt : i < n
     case neg =>
      obtain rfl : n = i := by omega
      have eo : ocl (fun j => decide (j < n) && decide (h2 ≤ rank l j)) n = V.map Value.bool := by
       rw [← HV.out]
       unfold ocl splitS
       rw [hLn2, List.map_map]
       apply List.map_congr_left
       intro j hj;have hj2 := List.mem_range.1 hj
       simp only [Function.comp, hj2, decide_true, Bool.true_and]
       rw [HQ.out, hLn2]
      rw [eo] at hO;clear hX;go_wp2_with fail;go_ret;exact ⟨_,rfl,hO,hbb⟩
     have hi1 : (i : Int) < (n : Int) := by omega
     go_wp2_with fail
     go_loopw [9, 10] (fun vn vk w4 => ∃ k : Nat, k ≤ n ∧ vk = .int .i64 k ∧ vn = .int .i64 (cntS l i k : Nat) ∧ Blk w4 G 4 (ocl (fun j => decide (j < i) && decide (h2 ≤ rank l j)) n).toArray ∧ BxsAt w4 G A2 n l ∧ Below w.heap.size w w4) (fun _ vk _ => n - (intOf vk).toNat)
     case atStart => exact ⟨0, by omega, rfl, rfl, hO, hX, hbb⟩
     case round =>
      clear hO hX hbb;obtain ⟨k,hk,rfl,rfl,hO,hX,hbb⟩ := hrel;have hcl := cntS_le l i k
      by_cases hlt2 : k < n
      case neg =>
       obtain rfl : n = k := by omega
       have hr : cntS l i n = rank l i := by unfold cntS rank;rw [hLn2]
       rw [hr] at hcl;have fO := hO.frozen;have lO := hO.lt
       have cO : wr.cell? ⟨G,i,none⟩ = some (.bool false) := by
        rw [hO.cell, lta]
        simp [ocl, hlt]
       have hO7 := (hO.set_ i (.bool (decide (h2 ≤ rank l i))))
       have es : ((ocl (fun j => decide (j < i) && decide (h2 ≤ rank l j)) n).toArray.setIfInBounds i (.bool (decide (h2 ≤ rank l i)))) = (ocl (fun j => decide (j < i + 1) && decide (h2 ≤ rank l j)) n).toArray := by
        apply Array.ext'
        simp only [lsi]
        apply List.ext_getElem
        · simp [ocl]
        · intro j h1 h3
          rw [List.getElem_set]
          simp only [ocl, List.getElem_map, List.getElem_range]
          split
          · rename_i e
            subst e
            simp
          · rename_i e
            congr 2
            rw [decide_eq_decide]
            omega
       rw [es] at hO7
       rw [hr]
       obtain ⟨rk,hrk⟩ : ∃ x,rank l i = x := ⟨_,rfl⟩
       rw [hrk] at hO7 hcl ⊢
       have HX := Lib.hid hX;have HO7 := Lib.hid hO7;have hge : decide ((h2 : Int) ≤ (rk : Int)) = decide (h2 ≤ rk) := by rw [decide_eq_decide];omega
       clear hX hO hO7 es hr hrk;go_wp2_with fail
       go_roundw
       case rel => exact ⟨i + 1,by omega,by go_num,HO7.out,HX.out.below bel,hbb.setCell (by simp;omega) _⟩
       case measure => simp [intOf];omega
      have hk1 : (k : Int) < (n : Int) := by omega
      obtain ⟨b,off,rfl,hab,a0,a1,a2,a3⟩ := hX.at_ hlt;obtain ⟨b',off',eb,_,d0,d1,d2,d3⟩ := hX.at_ hlt2;injection eb with eb
      injection eb with e1 e2
      subst e1 e2;have x1 := bx_small HOK.out i;have x2 := bx_small HOK.out k;obtain ⟨x,hx⟩ : ∃ x,cX (bx l k) - (bx l i).lo.x - (bx l i).hi.x = x := ⟨_,rfl⟩;obtain ⟨y,hy⟩ : ∃ x,cY (bx l k) - (bx l i).lo.y - (bx l i).hi.y = x := ⟨_,rfl⟩;have hah := ahd_eq l k i hx hy;have hcs := cntS_succ l i k;unfold cX at hx;unfold cY at hy;generalize bx l k = p at *;generalize bx l i = q at *;have w1 : IntKind.i64.wrap (p.lo.x + p.hi.x) = p.lo.x + p.hi.x := by rw [IntKind.wrap_i64];omega
      have w2 : IntKind.i64.wrap (p.lo.x + p.hi.x - q.lo.x) = p.lo.x + p.hi.x - q.lo.x := by rw [IntKind.wrap_i64];omega
      have w3 : IntKind.i64.wrap (p.lo.x + p.hi.x - q.lo.x - q.hi.x) = x := by rw [IntKind.wrap_i64];omega
      have y1 : IntKind.i64.wrap (p.lo.y + p.hi.y) = p.lo.y + p.hi.y := by rw [IntKind.wrap_i64];omega
      have y2 : IntKind.i64.wrap (p.lo.y + p.hi.y - q.lo.y) = p.lo.y + p.hi.y - q.lo.y := by rw [IntKind.wrap_i64];omega
      have y3 : IntKind.i64.wrap (p.lo.y + p.hi.y - q.lo.y - q.hi.y) = y := by rw [IntKind.wrap_i64];omega
      obtain ⟨m,hm⟩ : ∃ m,cntS l i k = m := ⟨_,rfl⟩
      rw [hm] at hcl hcs ⊢
      have HCS := Lib.hid hcs;have HAH := Lib.hid hah;clear hcs hah hx hy x1 x2 hm;have lO := hO.lt;have hbz := hbb.size;have hbw : b < wr.heap.size := by omega
      have HXX := Lib.hid hX;have HOO := Lib.hid hO;clear hX hO;go_wp2_with fail
      have HY : Hid (∀ w5,Below wr.heap.size wr w5 → w5.cell? ⟨b,off + k * 4 + 1,none⟩ = some (.int .i64 p.lo.y) ∧ w5.cell? ⟨b,off + k * 4 + 3,none⟩ = some (.int .i64 p.hi.y) ∧ w5.cell? ⟨b,off + i * 4 + 1,none⟩ = some (.int .i64 q.lo.y) ∧ w5.cell? ⟨b,off + i * 4 + 3,none⟩ = some (.int .i64 q.hi.y)) :=
       fun w5 h => ⟨(h.cell (p := ⟨b, _, none⟩) hbw).trans d1, (h.cell (p := ⟨b, _, none⟩) hbw).trans d3, (h.cell (p := ⟨b, _, none⟩) hbw).trans a1, (h.cell (p := ⟨b, _, none⟩) hbw).trans a3⟩
      refine wp_region_belowI (by kernel_rfl) (by kernel_rfl) (fun _ _ d _ _ h => by cases d <;> exact h) ?_
      simp only [List.map_cons, List.map_nil, ldz, lds, bare, gslot, lcz, lcs, Option.bind_some]
      repeat' ((try simp only [Act.put,lsi,lsz,lss]);first | (refine lexL_quiet (v := ?_) wantB_none rfl ?_ ?_;rotate_left;focus (intro wq hq;obtain ⟨hcq,hfq⟩ := bcell hq;go_simp;try with_reducible rfl)) | (refine lexL_loud wantB_none rfl (fun K hK => ?_);go_simp;((first | fail | skip) <;> (refine hK.out _ _ bel ?_;clear hK K))))
      (all_goals try simp only [Act.put,lsi,lsz,lss]);all_goals (refine lexL_nil ?_)
      refine keep_world (R := fun w5 => Below wr.heap.size wr w5) bel ?_
      intro w5 hb5;obtain ⟨f1,f2,f3,f4⟩ := HY.out w5 hb5;have hbw5 : b < w5.heap.size := by have := hb5.size;omega
      clear HY a0 a1 a2 a3 d0 d1 d2 d3;go_wp2_with fail;refine wp_region_belowI (by kernel_rfl) (by kernel_rfl) (fun _ _ d _ _ h => by cases d <;> exact h) ?_
      simp only [List.map_cons, List.map_nil, ldz, lds, bare, gslot, lcz, lcs, Option.bind_some]
      repeat' ((try simp only [Act.put,lsi,lsz,lss]);first | (refine lexL_quiet (v := ?_) wantB_none rfl ?_ ?_;rotate_left;focus (intro wq hq;obtain ⟨hcq,hfq⟩ := bcell hq;go_simp;try with_reducible rfl)) | (refine lexL_loud wantB_none rfl (fun K hK => ?_);go_simp;((first | fail | skip) <;> (refine hK.out _ _ bel ?_;clear hK K))))
      (all_goals try simp only [Act.put,lsi,lsz,lss]);all_goals (refine lexL_nil ?_)
      have lG5 : G ≤ wr.heap.size := by omega
      rcases Int.lt_trichotomy x 0 with hx | hx | hx
      · have hx1 : decide (x < 0) = true := decide_eq_true hx
        have HC : Hid (cntS l i (k + 1) = m + 1) := by unfold Hid;rw [HCS.out,HAH.out];simp [hx1]
        go_wp2_with fail
        go_roundw
        case rel => exact ⟨k + 1,by omega,by go_num,by rw [HC.out];go_num,HOO.out.tr bel,HXX.out.below (Below.mono (B := wr.heap.size) bel (by omega)),bel⟩
        case measure => simp [intOf];omega
      · have hx1 : decide (x < 0) = false := decide_eq_false (by omega)
        have hx2 : decide (x = 0) = true := decide_eq_true hx;have hx3 : (x == 0) = true := by rw [beq_iff_eq];exact hx
        have hx4 : ¬ x < 0 := by omega
        clear hx
        rcases Int.lt_trichotomy y 0 with hy | hy | hy
        · have hy1 : decide (y < 0) = true := decide_eq_true hy
          have HC : Hid (cntS l i (k + 1) = m + 1) := by unfold Hid;rw [HCS.out,HAH.out];simp [hx1,hx2,hy1]
          go_wp2_with fail
          go_roundw
          case rel => exact ⟨k + 1,by omega,by go_num,by rw [HC.out];go_num,HOO.out.tr bel,HXX.out.below (Below.mono (B := wr.heap.size) bel (by omega)),bel⟩
          case measure => simp [intOf];omega
        · have hy1 : decide (y < 0) = false := decide_eq_false (by omega)
          have hy2 : decide (y = 0) = true := decide_eq_true hy;have hy3 : (y == 0) = true := by rw [beq_iff_eq];exact hy
          have hy4 : ¬ y < 0 := by omega
          clear hy
          by_cases hki : k < i
          · have hki2 : (k : Int) < (i : Int) := by omega
            have hk3 : decide (k < i) = true := decide_eq_true hki;have HC : Hid (cntS l i (k + 1) = m + 1) := by unfold Hid;rw [HCS.out,HAH.out];simp [hx1,hx2,hy1,hy2,hk3]
            go_wp2_with fail
            go_roundw
            case rel => exact ⟨k + 1,by omega,by go_num,by rw [HC.out];go_num,HOO.out.tr bel,HXX.out.below (Below.mono (B := wr.heap.size) bel (by omega)),bel⟩
            case measure => simp [intOf];omega
          · have hki2 : ¬ (k : Int) < (i : Int) := by omega
            have hk3 : decide (k < i) = false := decide_eq_false hki;have HC : Hid (cntS l i (k + 1) = m) := by unfold Hid;rw [HCS.out,HAH.out];simp [hx1,hx2,hy1,hy2,hk3]
            go_wp2_with fail
            go_roundw
            case rel => exact ⟨k + 1, by omega, by go_num, by rw [HC.out], HOO.out.tr bel, HXX.out.below (Below.mono (B := wr.heap.size) bel (by omega)), bel⟩
            case measure => simp [intOf];omega
        · have hy1 : decide (y < 0) = false := decide_eq_false (by omega)
          have hy2 : decide (y = 0) = false := decide_eq_false (by omega)
          have hy3 : (y == 0) = false := by rw [beq_eq_false_iff_ne];omega
          have hy4 : ¬ y < 0 := by omega
          clear hy;have HC : Hid (cntS l i (k + 1) = m) := by unfold Hid;rw [HCS.out,HAH.out];simp [hx1,hx2,hy1,hy2]
          go_wp2_with fail
          go_roundw
          case rel => exact ⟨k + 1, by omega, by go_num, by rw [HC.out], HOO.out.tr bel, HXX.out.below (Below.mono (B := wr.heap.size) bel (by omega)), bel⟩
          case measure => simp [intOf];omega
      · have hx1 : decide (x < 0) = false := decide_eq_false (by omega)
        have hx2 : decide (x = 0) = false := decide_eq_false (by omega)
        have hx3 : (x == 0) = false := by rw [beq_eq_false_iff_ne];omega
        have hx4 : ¬ x < 0 := by omega
        clear hx;have HC : Hid (cntS l i (k + 1) = m) := by unfold Hid;rw [HCS.out,HAH.out];simp [hx1,hx2]
        go_wp2_with fail
        go_roundw
        case rel => exact ⟨k + 1, by omega, by go_num, by rw [HC.out], HOO.out.tr bel, HXX.out.below (Below.mono (B := wr.heap.size) bel (by omega)), bel⟩
        case measure => simp [intOf];omega
end Go.Proofs.YtcbjmcnebmhgpaaGreat

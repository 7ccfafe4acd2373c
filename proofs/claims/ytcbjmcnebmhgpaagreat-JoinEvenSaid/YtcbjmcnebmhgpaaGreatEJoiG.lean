/-
  join: no tree;Self of a tree that may be none.
  join: Groups of no tree.
-/
import Derived.Test.YtcbjmcnebmhgpaaGreatEJoiB
set_option linter.unusedVariables false
set_option linter.unusedSimpArgs false
set_option maxHeartbeats 1000000
set_option maxRecDepth 20000
namespace Go.Proofs.YtcbjmcnebmhgpaaGreat
open Go Go.RowKit Pg
theorem len_nilJ (w : World) : Calls Tryz.prog 45 #[.pointer none] w (Ret w (.int .i64 0)) := by
 have HG := Lib.hid gone_nil
 go_enter Tryz.func45,Tryz.ntmps45
 go_wp2_with (go_at_call 31;(refine (HG.out _).mono ?_);rintro e wg ⟨rfl,hbg⟩;obtain ⟨hcg,hfg⟩ := bcell hbg;have hzg := hbg.size;(try simp at hzg))
 go_ret;exact ⟨rfl,bel⟩
theorem items_nilJ (w : World) : Calls Tryz.prog 23 #[.pointer none] w (Ret w (.slice none 0 0)) := by
 have HG := Lib.hid gone_nil
 go_enter Tryz.func23,Tryz.ntmps23
 go_wp2_with (go_at_call 31;(refine (HG.out _).mono ?_);rintro e wg ⟨rfl,hbg⟩;obtain ⟨hcg,hfg⟩ := bcell hbg;have hzg := hbg.size;(try simp at hzg))
 go_ret;exact ⟨rfl,bel⟩
theorem toldNil (w : World) : Told w none [] := by
 refine ⟨fun W _ => len_nilJ W,fun W _ => (items_nilJ W).mono ?_,fun x hx => by cases hx⟩
 rintro e w' ⟨rfl,hb⟩;exact ⟨none,0,[],rfl,rfl,rfl,⟨World.ownsRow_nil _ _ _ _,by simp [Value.ownBlock],by simp⟩,hb⟩
theorem JSelfT_any {w : World} {p : Option Addr} {xa : List (Int × Ob)} (h : ∀ W,Below w.heap.size w W → Told W p xa) (hn : xa.length ≤ 100) :
 Calls Tryz.prog 15 #[.pointer p] w fun e w' => ∃ v,e = .returned (.tuple #[v,.nilIface]) ∧ w'.ownsRow w.heap.size 38 2 v (upJ (pairsP xa xa)).length (prcells (upJ (pairsP xa xa))) ∧ Below w.heap.size w w' := by
 have hlen : (pairsP xa xa).length ≤ 1000000 := by
  have h1 := pairsP_len xa xa;have h3 : xa.length * xa.length ≤ 100 * 100 := Nat.mul_le_mul hn hn
  omega
 have HPr := Lib.hid (fun W (hW : Below w.heap.size w W) => JPairsT_any (h W hW) (h W hW) hn hn)
 generalize pairsP xa xa = P at *;have HDl := Lib.hid (fun base v W (hr : W.ownsRow base 38 2 v P.length (prcells P)) => sdelP_any base P v P.length W hr hlen)
 clear h hn hlen
 go_enter Tryz.func15,Tryz.ntmps15
 go_wp2_with (first
  | (go_at_call 10;(refine (HPr.out _ bel).mono ?_);rintro e w2 ⟨v2,rfl,ho2,hb2⟩;have HO2 := Lib.hid (And.intro ho2 (show Below w.heap.size w w2 from bel));clear ho2 hb2)
  | (go_at_call 29;(refine (HDl.out _ _ _ HO2.out.1).mono ?_);rintro e w3 ⟨v3,rfl,ho3,hg3⟩;have H3 := Lib.hid (And.intro ho3 hg3);clear ho3 hg3))
 go_ret2
 exact ⟨_,rfl,H3.out.1,HO2.out.2.grown H3.out.2 HO2.out.2.size fun k e => (HO2.out.1.lt k e).1⟩
theorem groups_nilJ (w : World) : Calls Tryz.prog 11 #[.pointer none] w fun e w' => e = .returned (.tuple #[.slice none 0 0,.nilIface]) ∧ Below w.heap.size w w' := by
 have HS := Lib.hid (fun W => JSelfT_any (w := W) (p := none) (xa := []) (fun W' _ => toldNil W') (by decide))
 have HI := Lib.hid items_nilJ;have hmk : ∀ W : World,(Instr.makeMap 78 none).run Tryz.prog W = .ok (.map (some W.heap.size)) (W.alloc (.map #[] 0)) := fun W => run_makeMap _ W
 have hmk2 : ∀ W : World,(Instr.makeMap 80 none).run Tryz.prog W = .ok (.map (some W.heap.size)) (W.alloc (.map #[] 0)) := fun W => run_makeMap _ W
 go_enter Tryz.func11,Tryz.ntmps11
 go_wp2_with (first
  | (go_at_call 15;(refine (HS.out _).mono ?_);rintro e w1 ⟨v1,rfl,ho1,hb1⟩;rw [show (upJ (pairsP [] [])).length = 0 from rfl] at ho1;obtain ⟨A1,c1,rfl,_,_,_⟩ := row_form ho1;clear ho1;obtain ⟨hc1,hf1⟩ := bcell hb1;have hz1 := hb1.size;(try simp at hz1))
  | (go_at_call 23;(refine (HI.out _).mono ?_);rintro e wi ⟨rfl,hbi⟩;obtain ⟨hci,hfi⟩ := bcell hbi;have hzi := hbi.size;(try simp at hzi)))
 refine wp_genG (fun W => Below w.heap.size w W) bel ?_
 rintro w2 hb2
 go_loopw [35] (fun vi wr => vi = .int .i64 0 ∧ Below w.heap.size w wr) (fun _ _ => 0)
 case atStart => exact ⟨rfl,hb2⟩
 case round =>
  obtain ⟨rfl,hb⟩ := hrel;clear hb2;go_wp2_with fail
  go_loopw [47] (fun vi wr => vi = .int .i64 0 ∧ Below w.heap.size w wr) (fun _ _ => 0)
  case atStart => exact ⟨rfl, hb⟩
  case round =>
   clear hb;obtain ⟨rfl,hb⟩ := hrel;go_wp2_with fail;refine wp_genG (fun W => Below w.heap.size w W) (hb.trans ((show Below wr.heap.size wr _ from bel).mono hb.size)) ?_
   rintro w3 hb3;clear hb
   go_loopw [70] (fun vi wr => vi = .int .i64 0 ∧ Below w.heap.size w wr) (fun _ _ => 0)
   case atStart => exact ⟨rfl, hb3⟩
   case round =>
    obtain ⟨rfl,hb⟩ := hrel;clear hb3;go_wp2_with fail
    go_loopw [2, 90] (fun v2 vi wr => v2 = .slice none 0 0 ∧ vi = .int .i64 0 ∧ Below w.heap.size w wr) (fun _ _ _ => 0)
    case atStart => exact ⟨rfl, rfl, hb⟩
    case round =>
     clear hb;obtain ⟨rfl,rfl,hb⟩ := hrel;go_wp2_with fail
     go_ret2
     exact ⟨rfl,hb⟩
end Go.Proofs.YtcbjmcnebmhgpaaGreat

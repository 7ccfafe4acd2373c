/-
  gist: Len;what is near in a tree of one.
-/
import Derived.Test.YtcbjmcnebmhgpaaGreatKMadJ
import Derived.Test.YtcbjmcnebmhgpaaGreatKGisJ
import Derived.Test.YtcbjmcnebmhgpaaGreatKHeaC
import Derived.Test.YtcbjmcnebmhgpaaGreatKDist2
import Derived.Test.YtcbjmcnebmhgpaaGreatKWide
import Derived.Test.YtcbjmcnebmhgpaaGreatKBits2
import Derived.Test.YtcbjmcnebmhgpaaGreatKPlainSplit
import Derived.StillTailTactics
import Derived.Test.YtcbjmcnebmhgpaaGreatKLex
import Derived.Test.YtcbjmcnebmhgpaaGreatKAlloc
import Derived.Test.YtcbjmcnebmhgpaaGreatKMBox
import Derived.Test.YtcbjmcnebmhgpaaGreatKRel1
import Derived.Test.YtcbjmcnebmhgpaaGreatKEncK
import Derived.Test.YtcbjmcnebmhgpaaGreatKNearP
import Derived.Test.YtcbjmcnebmhgpaaGreatKGisB
set_option linter.unusedVariables false
set_option linter.unusedSimpArgs false
set_option maxRecDepth 20000
namespace Go.Proofs.YtcbjmcnebmhgpaaGreat
open Go Go.RowKit Pg
theorem len_any {w : World} {own imm : Nat → Prop} {tb mb : Nat} {ct : TypeId} {cv : Value} {t : Tr} {H : Nat → Prop} {L : Int → Prop} (h : Lay w own imm tb mb (.iface ct cv) t H L) : Calls Tryz.prog 45 #[gP tb] w (Ret w (.int .i64 (t.items.length : Nat))) := by
 obtain ⟨t0,t1,t2,t3,tlt⟩ := h.c0;have HG := Lib.hid (fun W (hW : Below w.heap.size w W) => gone_any (h.tr hW))
 have HM := Lib.hid h.mp;have hml : (t.items.map fun p => (p.1,gP p.2.blk)).length = t.items.length := List.length_map _
 have HML := Lib.hid hml;clear h hml
 try simp only [gP] at *
 go_enter Tryz.func45,Tryz.ntmps45
 have HLn : Hid (∀ W,Below w.heap.size w W → ∀ ty,(Builtin.len_ #[88] ty #[.map (some mb)]).run Tryz.prog W = .ok (.int .i64 (t.items.length : Nat)) W) := fun W hW ty => by
  have := World.ownsMap.len (show W.ownsMap Tryz.prog 3 RV mb _ (toD (t.items.map fun p => (p.1,gP p.2.blk))) from MapAt.tr HM.out hW) Tryz.underlying88 ty
  rw [toD_size,HML.out] at this;exact this
 go_wp2_with (go_at_call 31;(refine (HG.out _ bel).mono ?_);rintro e w1 ⟨rfl,hb1⟩;obtain ⟨hc1,hf1⟩ := bcell hb1;have hz1 := hb1.size;(try simp at hz1);have hln := HLn.out w1 hb1)
 go_ret;exact ⟨rfl,bel⟩
end Go.Proofs.YtcbjmcnebmhgpaaGreat

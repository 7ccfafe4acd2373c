/-
  Delete's states: on the way up,at the root,behind it;each step of memory leads from one to the next.
-/
import Derived.Test.YtcbjmcnebmhgpaaGreatKDelD
set_option linter.unusedVariables false
set_option linter.unusedSimpArgs false
namespace Pg
open Go Go.RowKit
theorem append_whereV {P : Program} {w : World} {t ty e : TypeId} {i : TypeInfo} {z : Value} {base size bytes : Nat} (ht : P.underlying t = some (.slice e)) (hi : P.info? e = some i) (hz : i.zero = some z)
 (hsize : i.size = size) (hby : i.bytes = bytes) {v : Value} {n : Nat} {xs : List Value} (hown : w.ownsRow base e size v n xs)
 {a : Addr} {m c : Nat} {news : List Value} (hl : news.length = m * size) (hnews : ∀ j u,news[j]? = some u → w.cell? (a.add j) = some u) (h1 : ∀ u ∈ news,u.oneCell' = true)
 (h63 : n + m ≤ maxLen) (hbytes : (n + m) * bytes ≤ 140737488355328) (hm : v = .slice none 0 0 → 0 < m) {v' : Value} {w' : World} (hr : (Builtin.append_ #[t,t] ty #[v,.slice (some a) m c]).run P w = .ok v' w') : v'.ownBlock = v.ownBlock ∨ v'.ownBlock = some w.heap.size := by
 by_cases h0 : 0 < m
 · exact append_where ht hi hz hsize hby hown hl hnews h1 h63 hbytes h0 hr
 subst hsize;subst hby;have hsmall : n + m ≤ 9223372036854775807 := by simp only [maxLen] at h63;omega
 rcases hown.2 with ⟨rfl,rfl⟩ | ⟨g,cap,cur,rfl,hbg,hg,hnc,hcm,hcs,htake⟩
 · exact absurd (hm rfl) h0
 · have hroom : n + m ≤ cap := by omega
   have hfit : n * i.size + news.length ≤ cur.size := by rw [hl,hcs,← Nat.add_mul];exact Nat.mul_le_mul_right _ hroom
   have hr2 := run_append_room (P := P) w t ty e i ht hi g n cap cur hg a m c news hl hnews h1 hroom hfit;rw [hr2] at hr;injection hr with e1 _
   subst e1;exact .inl rfl
theorem wpList_append_rowsW {P : Program} {w : World} {ops : Array Oper} {rest : List Oper} {o : Oper} {a : Act} {Q : Exit → Act → World → Prop} (hgd : o.guard = none) (s x : Operand) (t : TypeId)
 (ho : o.op = .call { callee := .builtin .append,args := #[s,x],argTypes := #[t,t] })
 (e : TypeId) (i : TypeInfo) (z : Value) (size bytes : Nat) (ht : P.underlying t = some (.slice e)) (hi : P.info? e = some i) (hz : i.zero = some z)
 (hsize : i.size = size) (hby : i.bytes = bytes) (hzs : z.cells.size = size) (hsz : 0 < size)
 (v : Value) (n : Nat) (xs : List Value) (hs : a.eval s = v) (hown : w.ownsRow 0 e size v n xs) (base2 : Nat) (v2 : Value) (m : Nat) (ys : List Value) (hx : a.eval x = v2) (hown2 : w.ownsRow base2 e size v2 m ys) (h1 : ∀ u ∈ ys,u.oneCell' = true)
 (h63 : n + m ≤ maxLen) (hbytes : (n + m) * bytes ≤ 140737488355328)
 (h : ∀ v' w',w'.ownsRow 0 e size v' (n + m) (xs ++ ys) → w.grownBy w' v.ownBlock → (v'.ownBlock = v.ownBlock ∨ v'.ownBlock = some w.heap.size) → wpList P ops Q rest (a.put o.dst v') w') : wpList P ops Q (o :: rest) a w := by
 have hl := hown2.1
 rcases hown2.2 with ⟨e1,h0⟩ | ⟨g,cap,cur,e1,hg,hh,hc⟩
 · subst e1 h0
   have hys : ys = [] := by simpa using hl
   subst hys;exact wpList_append_own_none hgd s x t ho 0 e i size ht hi v n xs hs hown hx (h v w (by simpa using hown) ⟨rfl,rfl,rfl,Nat.le_refl _,fun _ _ _ => rfl⟩ (.inl rfl))
 · subst e1
   refine wpList_plain hgd fun _ hK => ?_
   have hnews : ∀ j u,ys[j]? = some u → w.cell? ((⟨g,0,none⟩ : Addr).add j) = some u := hown2.cells (g := g) rfl;obtain ⟨v',w',hr,h2,h3,h4⟩ := run_append_own (P := P) w 0 t o.type e i z size bytes ht hi hz hsize hby hzs hsz v n xs hown ⟨g,0,none⟩ m cap ys hl hnews h1 h63 hbytes (Nat.zero_le _)
   have hw : v'.ownBlock = v.ownBlock ∨ v'.ownBlock = some w.heap.size := by
    by_cases q : v = .slice none 0 0 ∧ m = 0
    · have q1 := h4.2 q
      rw [q1, q.1]
      exact .inl rfl
    · exact append_whereV ht hi hz hsize hby hown hl hnews h1 h63 hbytes (fun e => by
       rcases Nat.eq_zero_or_pos m with r | r
       · exact absurd ⟨e, r⟩ q
       · exact r) hr
   unfold Oper.wp execOp
   simp only [ho, resolve, invoke, builtin, Sem.run_bind, Sem.run_pure, Result.andThen_ok, List.map_toArray, List.map_cons, List.map_nil, hs, hx, hr]
   exact hK _ _ (h v' w' h2 h3 hw)
theorem Climb.lens {U : List (List Nat) → List Nat} {t : Tr} {out : List Int} {n : Nat} (c : Climb U t out n) : ∀ b l,t.lv b = some l → (t.es b).length ≤ t.fan := fun b l hb => by
 by_cases q : b = n
 · rw [q];exact c.most
 · exact (c.fill b l hb q).1
theorem Top.lens {U : List (List Nat) → List Nat} {t : Tr} {out : List Int} (c : Top U t out) : ∀ b l,t.lv b = some l → (t.es b).length ≤ t.fan := fun b l hb => by
 by_cases q : b = t.root
 · rw [q];exact c.most
 · exact (c.fill b l hb q).1
theorem few_out {m : List (Int × It)} {out : List Int} (hnd : out.Nodup) (h : ∀ i ∈ out,∃ it,getK i m = some it) : out.length ≤ m.length := by
 have := nodup_len (m := m.map (·.1)) hnd fun i hi => by
  obtain ⟨it,hit⟩ := h i hi;exact List.mem_map.2 ⟨_,getK_some hit,rfl⟩
 rwa [List.length_map] at this
end Pg
namespace Go.Proofs.YtcbjmcnebmhgpaaGreat
open Go Go.RowKit Pg
theorem sdelI_any (lf : Bool) (l : List En) (g n c i : Nat) (w : World) (h : w.ownsRow 0 99 3 (.slice (some ⟨g,0,none⟩) n c) n (ecells lf l)) (hone : ∀ e ∈ l,e.kv.oneCell' = true) (hi : i < n) (hn : n ≤ 1000000) :
 Calls Tryz.prog 38 #[.slice (some ⟨g,0,none⟩) n c,.int .i64 (i : Int),.int .i64 ((i : Int) + 1)] w fun e w' => e = .returned (.slice (some ⟨g,0,none⟩) (n - 1) c) ∧ w'.ownsRow 0 99 3 (.slice (some ⟨g,0,none⟩) (n - 1) c) (n - 1) (ecells lf (l.eraseIdx i)) ∧ w.grownBy w' (some g) := by
 have h1 := sdel_any lf l g n c i w h hone hi hn
 rwa [show ((i + 1 : Nat) : Int) = (i : Int) + 1 from by omega] at h1
section
variable {w W W' : World} {own imm own' imm' : Nat → Prop} {v v' : Value} {out ys : List Int}
structure LostAt (w W : World) (own imm : Nat → Prop) (v : Value) (out : List Int) : Prop where
 row : W.ownsRow 0 3 1 v out.length (idcs out)
 no : ∀ k,v.ownBlock = some k → w.heap.size ≤ k ∧ ¬ own k ∧ ¬ imm k
theorem LostAt.nil : LostAt w W own imm (.slice none 0 0) [] := ⟨World.ownsRow_nil _ _ _ _,fun k e => by cases e⟩
theorem LostAt.grow (h : LostAt w W own imm v out) (hg : Grow W W' own imm own' imm') : LostAt w W' own' imm' v out :=
 ⟨own_turnU h.row hg.turn fun g q => (h.no g q).2.1,fun k q => ⟨(h.no k q).1,fun r => (hg.oo k r).elim (h.no k q).2.1 fun s => by have := (h.row.lt k q).2;omega,fun r => (hg.ii k r).elim (h.no k q).2.2 fun s => by have := (h.row.lt k q).2;omega⟩⟩
theorem LostAt.tr (h : LostAt w W own imm v out) (hb : Below W.heap.size W W') : LostAt w W' own imm v out := h.grow (Grow.of_below hb)
theorem LostAt.more (h : LostAt w W own imm v out) (hlim : ∀ b,own b ∨ imm b → b < W.heap.size) (hw : w.heap.size ≤ W.heap.size) (hrow : W'.ownsRow 0 3 1 v' (out.length + ys.length) (idcs out ++ idcs ys)) (hwh : v'.ownBlock = v.ownBlock ∨ v'.ownBlock = some W.heap.size) : LostAt w W' own imm v' (out ++ ys) := by
 refine ⟨by rw [List.length_append];unfold idcs;rw [List.map_append];exact hrow,fun k q => ?_⟩
 rcases hwh with e | e
 · exact h.no k (by rw [← e];exact q)
 · rw [e] at q
   cases q
   exact ⟨hw,fun r => by have := hlim _ (.inl r);omega,fun r => by have := hlim _ (.inr r);omega⟩
theorem LostAt.at_ {A : Option Addr} {n c i : Nat} {z : Int} (h : LostAt w W own imm (.slice A n c) out) (hz : out[i]? = some z) : ∃ g,A = some ⟨g,0,none⟩ ∧ g < W.heap.size ∧ W.cell? ⟨g,i,none⟩ = some (.int .i64 z) := by
 have hi : i < out.length := (List.getElem?_eq_some_iff.1 hz).1
 rcases h.row.2 with ⟨_,h0⟩ | ⟨g,cap,cur,e,_⟩
 · omega
 · injection e with e1 e2 e3
   subst e1;have hr := h.row;rw [e2,e3] at hr;refine ⟨g,rfl,(hr.lt g rfl).2,?_⟩
   rw [hr.cellAt i (by omega)]
   unfold idcs
   rw [List.getElem?_map, hz]
   rfl
end
section
variable {C : Cl} {cl : Value} {w W W' : World} {own imm0 imm : Nat → Prop} {tb mb n l u i m g c : Nat} {t t3 : Tr} {id : Int} {out : List Int} {x : En}
structure ClimbAt (C : Cl) (cl : Value) (w W : World) (own imm0 : Nat → Prop) (tb mb : Nat) (t : Tr) (id : Int) (t3 : Tr) (out : List Int) (imm : Nat → Prop) (n l : Nat) : Prop where
 lay : Lay W own imm tb mb cl t3 (fun _ => False) fun i => i ∈ out
 grow : Grow w W own imm0 own imm
 climb : Climb C.un t3 out n
 lv : t3.lv n = some l
 its : t3.items = delK id t.items
 fan : t3.fan = t.fan
 old : ∀ b l,t3.lv b = some l → t.lv b = some l
theorem ClimbAt.kept {row : Option Nat} (h : ClimbAt C cl w W own imm0 tb mb t id t3 out imm n l) (hg : W.grownBy W' row) (hne : ∀ g,row = some g → w.heap.size ≤ g ∧ ¬ own g ∧ ¬ imm g) : ClimbAt C cl w W' own imm0 tb mb t id t3 out imm n l :=
 { h with
  lay := h.lay.kept hg fun g e => (hne g e).2
  grow := ⟨h.grow.turn.grown hg fun k e => .inr (hne k e).1, h.grow.oo, h.grow.ii, h.grow.o, h.grow.i⟩ }
theorem ClimbAt.tr (h : ClimbAt C cl w W own imm0 tb mb t id t3 out imm n l) (hb : Below W.heap.size W W') : ClimbAt C cl w W' own imm0 tb mb t id t3 out imm n l := h.kept (grown_below hb) (by simp)
open Classical in
theorem ClimbAt.dropped (h : ClimbAt C cl w W own imm0 tb mb t id t3 out imm n l) (hu : t3.up n = some u) (hx : (t3.es u)[i]? = some x) (hxk : x.kid = n) (hsl : t3.sl u = .slice (some ⟨g,0,none⟩) m c) (hm : (t3.es u).length = m) (hg : W.grownBy W' (some g)) (hrow : W'.ownsRow 0 99 3 (.slice (some ⟨g,0,none⟩) (m - 1) c) (m - 1) (ecells false ((t3.es u).eraseIdx i))) :
 ∃ t4,ClimbAt C cl w (W'.setCell ⟨u,2,none⟩ (.slice (some ⟨g,0,none⟩) (m - 1) c)) own imm0 tb mb t id t4 (out ++ below t3 l n) imm u (l + 1) ∧ Grow W (W'.setCell ⟨u,2,none⟩ (.slice (some ⟨g,0,none⟩) (m - 1) c)) own imm own imm := by
 obtain ⟨hul,hun⟩ := h.climb.up h.lv hu;have hi : i < (t3.es u).length := (List.getElem?_eq_some_iff.1 hx).1;obtain ⟨hL,hG⟩ := h.lay.shrunk (b := u) (l := l + 1) (m := m) (es := (t3.es u).eraseIdx i) hul hsl hg (by simpa using hrow) (by rw [List.length_eraseIdx,if_pos hi,hm]) (fun e he => (List.eraseIdx_sublist _ _).subset he)
 have hlv : ∀ b m,(if Und t3.up n b then none else t3.lv b) = some m → t3.lv b = some m := fun b m hb => by
  split at hb
  · cases hb
  · exact hb
 refine ⟨_,⟨(hL.forget (lv := fun b => if Und t3.up n b then none else t3.lv b) hlv).less (fun _ q => q) (fun i q => List.mem_append_left _ q),h.grow.trans hG,h.climb.drop (v := .slice (some ⟨g,0,none⟩) (m - 1) c) h.lv hu hx hxk rfl,?_,h.its,h.fan,fun b l hb => h.old b l (hlv b l hb)⟩,hG⟩
 have hnu : ¬ Und t3.up n u := fun q => by
  obtain ⟨m',h1,h2,_⟩ := h.climb.shape.und_lv hul q;rw [h.lv] at h2;injection h2 with h2
  omega
 show (if Und t3.up n u then none else t3.lv u) = some (l + 1)
 rw [if_neg hnu]
 exact hul
theorem ClimbAt.keyed {kv : Value} {kb : List Nat} {B : Nat} (h : ClimbAt C cl w W own imm0 tb mb t id t3 out imm n l) (hu : t3.up n = some u) (hx : (t3.es u)[i]? = some x) (hxk : x.kid = n) (hlen : t3.fan / 2 ≤ (t3.es n).length) (hsl : t3.sl u = .slice (some ⟨g,0,none⟩) m c) (hW : Below W.heap.size W W') (ho : W'.ownsRow B 5 1 kv kb.length (ycells kb)) (hB : W.heap.size ≤ B) (hkb : kb = C.un ((t3.es n).map En.kb)) (h1 : ∀ x ∈ kb,x < 256) (h2 : kb.length ≤ 1000000) :
 ∃ t4 imm4,ClimbAt C cl w (W'.setCell ⟨g,i * 3,none⟩ kv) own imm0 tb mb t id t4 out imm4 u (l + 1) ∧ Grow W (W'.setCell ⟨g,i * 3,none⟩ kv) own imm own imm4 := by
 subst hkb;obtain ⟨hul,_⟩ := h.climb.up h.lv hu;obtain ⟨imm4,hL,hG⟩ := h.lay.refreshed hW hul (fun q => q) hsl (List.getElem?_eq_some_iff.1 hx).1 ho hB h1 h2
 exact ⟨_,imm4,⟨hL,h.grow.trans hG,h.climb.key h.lv hu hx hxk hlen kv,hul,h.its,h.fan,h.old⟩,hG⟩
structure TopAt (C : Cl) (cl : Value) (w W : World) (own0 imm0 : Nat → Prop) (tb mb : Nat) (t : Tr) (id : Int) (t3 : Tr) (out : List Int) (own imm : Nat → Prop) (l : Nat) : Prop where
 lay : Lay W own imm tb mb cl t3 (fun _ => False) fun i => i ∈ out
 grow : Grow w W own0 imm0 own imm
 top : Top C.un t3 out
 lv : t3.lv t3.root = some l
 its : t3.items = delK id t.items
 fan : t3.fan = t.fan
theorem ClimbAt.top (h : ClimbAt C cl w W own imm0 tb mb t id t3 out imm n l) (hu : t3.up n = none) : TopAt C cl w W own imm0 tb mb t id t3 out own imm l :=
 ⟨h.lay,h.grow,h.climb.top h.lv hu,by rw [← h.climb.shape.one n l h.lv hu];exact h.lv,h.its,h.fan⟩
variable {own0 : Nat → Prop}
theorem TopAt.sunk (h : TopAt C cl w W own0 imm0 tb mb t id t3 out own imm (l + 1)) (hes : t3.es t3.root = [x]) :
 TopAt C cl w ((W.setCell ⟨tb,2,none⟩ (gP x.kid)).setCell ⟨x.kid,0,none⟩ (.pointer none)) own0 imm0 tb mb t id { t3 with root := x.kid,lv := updT t3.lv t3.root none,up := updT t3.up x.kid none } out own imm l ∧ Grow W ((W.setCell ⟨tb,2,none⟩ (gP x.kid)).setCell ⟨x.kid,0,none⟩ (.pointer none)) own imm own imm ∧ (∀ b m,updT t3.lv t3.root none b = some m → t3.lv b = some m) ∧ t3.lv x.kid = some l := by
 obtain ⟨h1,h2⟩ := h.top.sink h.lv hes rfl;have hk := (h.top.shape.kid _ _ x h.lv (by rw [hes];simp)).1
 have hL1 := (h.lay.setRoot (r := x.kid)).noUp (b := x.kid) (l := l) hk
 have hlv : ∀ b m,updT t3.lv t3.root none b = some m → t3.lv b = some m := fun b m hb => by
  unfold updT at hb
  split at hb
  · cases hb
  · exact hb
 have hG : Grow W ((W.setCell ⟨tb,2,none⟩ (gP x.kid)).setCell ⟨x.kid,0,none⟩ (.pointer none)) own imm own imm := Grow.of_turn (((TurnF.refl own W).set_ (p := ⟨tb,2,none⟩) (.inl h.lay.oT) _).set_ (p := ⟨x.kid,0,none⟩) (.inl (h.lay.oN _ _ hk)) _);exact ⟨⟨hL1.forget (lv := updT t3.lv t3.root none) hlv,h.grow.trans hG,h1,h2,h.its,h.fan⟩,hG,hlv,hk⟩
theorem TopAt.emptied (h : TopAt C cl w W own0 imm0 tb mb t id t3 out own imm (l + 1)) (hes : t3.es t3.root = []) :
 ∃ t4 own4,TopAt C cl w ((W.setCell ⟨tb,2,none⟩ (gP W.heap.size)).alloc (.cells #[.pointer none,.bool true,.slice none 0 0] 101)) own0 imm0 tb mb t id t4 out own4 imm 0 ∧ Grow W ((W.setCell ⟨tb,2,none⟩ (gP W.heap.size)).alloc (.cells #[.pointer none,.bool true,.slice none 0 0] 101)) own imm own4 imm := by
 have h1 := h.lay.setRoot (r := W.heap.size);have h2 := h1.bornNew (W := (W.setCell ⟨tb,2,none⟩ (gP W.heap.size)).alloc (.cells #[.pointer none,.bool true,.slice none 0 0] 101)) (o := W.heap.size) (l := 0) (h.lay.fresh (Nat.le_refl _)) bel (by simp) (Blk.new (by simp) rfl)
 have h3 := h2.1.forget (lv := fun b => if b = W.heap.size then some 0 else none) (fun b m hb => by
  by_cases q : b = W.heap.size
  · rw [if_pos q] at hb
    rw [q]
    show updT t3.lv W.heap.size (some 0) W.heap.size = some m
    rw [updT_same]
    exact hb
  · rw [if_neg q] at hb
    cases hb)
 obtain ⟨h4,h5⟩ := h.top.empty (r := W.heap.size) h.lv hes rfl;have hG := (Grow.of_turn ((TurnF.refl own W).set_ (p := ⟨tb,2,none⟩) (.inl h.lay.oT) (gP W.heap.size)) : Grow W _ own imm own imm).trans h2.2;exact ⟨_,_,⟨h3,h.grow.trans hG,h4,h5,h.its,h.fan⟩,hG⟩
structure DoneAt (C : Cl) (cl : Value) (w W : World) (own0 imm0 : Nat → Prop) (tb mb : Nat) (t : Tr) (id : Int) (t3 : Tr) (L : Int → Prop) (own imm : Nat → Prop) : Prop where
 lay : Lay W own imm tb mb cl t3 (fun _ => False) L
 grow : Grow w W own0 imm0 own imm
 shape : Shape t3 L
 fill : Fill t3 fun _ => False
 keyed : Keyed C.un t3 fun _ => False
 its : t3.items = delK id t.items
 fan : t3.fan = t.fan
theorem TopAt.done (h : TopAt C cl w W own0 imm0 tb mb t id t3 out own imm l) (hz : l = 0 ∨ 2 ≤ (t3.es t3.root).length) : DoneAt C cl w W own0 imm0 tb mb t id t3 (fun i => i ∈ out) own imm :=
 ⟨h.lay,h.grow,h.top.shape,h.top.done h.lv hz,h.top.keyed,h.its,h.fan⟩
variable {L L' : Int → Prop}
theorem DoneAt.less (h : DoneAt C cl w W own0 imm0 tb mb t id t3 L own imm) (hL : ∀ i,L i ↔ L' i) : DoneAt C cl w W own0 imm0 tb mb t id t3 L' own imm :=
 { h with lay := h.lay.less (fun _ q => q) (fun i q => (hL i).1 q),shape := h.shape.less hL }
def DelG (C : Cl) (cl : Value) (w w' : World) (own imm : Nat → Prop) (tb mb : Nat) (t : Tr) (id : Int) : Prop :=
 ∃ t' own' imm',GAt C cl w' own' imm' tb mb t' ∧ Grow w w' own imm own' imm' ∧ t'.fan = t.fan ∧ t'.items = delK id t.items
theorem DoneAt.gat {own' imm' : Nat → Prop} (h : DoneAt C cl w W own imm tb mb t id t3 L own' imm') (hL : ∀ i,¬ L i) (hG : GAt C cl w own imm tb mb t) : DelG C cl w W own imm tb mb t id := by
 have h' := h.less (L' := fun _ => False) fun i => ⟨fun q => hL i q,fun q => q.elim⟩
 refine ⟨t3,own',imm',⟨h'.lay,h'.shape,h'.fill,h'.keyed,by rw [h.fan];exact hG.fan4,by rw [h.fan];exact hG.fan16,fun j y hj => ?_⟩,h.grow,h.fan,h.its⟩
 rw [h.its,get_del hG.shape.rise] at hj
 split at hj
 · cases hj
 · exact hG.its j y hj
end
end Go.Proofs.YtcbjmcnebmhgpaaGreat

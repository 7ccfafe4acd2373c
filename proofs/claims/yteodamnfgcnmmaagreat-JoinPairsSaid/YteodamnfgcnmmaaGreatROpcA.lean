/-Contracts of the classes-/
import Derived.Test.YteodamnfgcnmmaaGreatREncH
import Derived.Test.YteodamnfgcnmmaaGreatRArea
import Derived.Test.YteodamnfgcnmmaaGreatRRefRB
set_option linter.unusedVariables false
set_option linter.unusedSimpArgs false
set_option maxHeartbeats 4000000
set_option maxRecDepth 20000
namespace Go.Proofs.YteodamnfgcnmmaaGreat
open Go.RowKit Pg
def qun (b:Bx) (q:Qu):Bool:=if ckQu q=0 then(if q.kind=3 then bhas b q.box.lo else if q.kind=4 then qbk b (qah q.ring) else qbk b q.box) else false
def qxt (key:List Nat) (q:Qu):Bool:=match qbx key with|none=>false|some b=>qun b q
def penS (k a:List Nat):Nat:=match qbx k,qbx a with|some x,some y=>qny x y|_,_=>0
def farS (k:List Nat) (p:Pt):Fr:=match qbx k with|none=>qw3|some b=>bxF b p
theorem qgj {l:List Nat} (h:qbx l=none):qdi l=.tuple #[bxV 0 0 0 0,.bool false]:=by unfold qdi;rw [h]
theorem qgi {l:List Nat} {b:Bx} (h:qbx l=some b):qdi l=.tuple #[bxV b.lo.x b.lo.y b.hi.x b.hi.y,.bool true]:=by unfold qdi;rw [h]
theorem qks {l:List Nat} {b:Bx} (h:qbx l=some b):okBx b=true:=by
 unfold qbx at h
 split at h
 · cases h
 · split at h
   · cases h
   · split at h
     · cases h
     · split at h
       · cases h
       · split at h
         · rename_i h2;injection h with h;subst h;exact h2.2
         · cases h
theorem qtk (B n c n2 c2:Nat) (A A2:Option Addr) (l l2:List Nat) (w:World) (hl:qb8 w B A n l) (h256:∀x∈l,x<256) (hl2:qb8 w B A2 n2 l2) (h2562:∀x∈l2,x<256) (hB:B<=w.heap.size) (hn:n<=1000000) (hnc:n<=c) (hn2:n2<=1000000) (hnc2:n2<=c2) (hAn:A=none->c=0) (hAn2:A2=none->c2=0):
 C9 167 #[.slice A n c,.slice A2 n2 c2] w (Ret w (.int .i64 (penS l l2:Nat))):=by
 have HU:=hdQ (fun W (hW:Below w.heap.size w W)=>qfw B n c A l W (hl.tr hW hB) h256 (zcy hB hW.size) hn hnc hAn)
 have HU2:=hdQ (fun W (hW:Below w.heap.size w W)=>qfw B n2 c2 A2 l2 W (hl2.tr hW hB) h2562 (zcy hB hW.size) hn2 hnc2 hAn2)
 have HP:Hid (∀x y,qbx l=some x->qbx l2=some y->penS l l2=qny x y):=fun x y e1 e2=>by unfold penS;rw [e1,e2]
 cases hk:qbx l with
 | none=>
   have HP2:Hid (penS l l2=0):=by unfold Hid penS;rw [hk]
   rw [HP2.out]
   rw [qgj hk] at HU;obtain⟨q,hq⟩:∃q,qdi l2=q:=⟨_,rfl⟩;rw [hq] at HU2
   obtain⟨a,b,c',d,t,rfl⟩:∃a b c d t,q=.tuple #[bxV a b c d,.bool t]:=by
    rw [<-hq]
    unfold qdi
    split
    · exact⟨_,_,_,_,_,rfl⟩
    · exact⟨_,_,_,_,_,rfl⟩
   clear hl hl2 hk hq HP HP2
   go_enter Tryz.func167,Tryz.ntmps167
   go_wp2_with (first|(go_at_call 173;have _hz:=hz5;(with_reducible refine(HU2.out _ bel).monoR ?_);rintro w6 hb6 hc6 hf6 hz6;(try simp at hz6);have hy62:=ol1 w5 w6)|(go_at_call 173;(with_reducible refine(HU.out _ bel).monoR ?_);rintro w5 hb5 hc5 hf5 hz5;(try simp at hz5)))
   go_ret;exact⟨rfl,bel⟩
 | some x=>
   rw [qgi hk] at HU;have hx:=qks hk
   cases hk2:qbx l2 with
   | none=>
     have HP2:Hid (penS l l2=0):=by unfold Hid penS;rw [hk,hk2]
     rw [HP2.out]
     rw [qgj hk2] at HU2;clear hl hl2 hk hk2 HP HP2
     go_enter Tryz.func167,Tryz.ntmps167
     go_wp2_with (first|(go_at_call 173;have _hz:=hz5;(with_reducible refine(HU2.out _ bel).monoR ?_);rintro w6 hb6 hc6 hf6 hz6;(try simp at hz6);have hy62:=ol1 w5 w6)|(go_at_call 173;(with_reducible refine(HU.out _ bel).monoR ?_);rintro w5 hb5 hc5 hf5 hz5;(try simp at hz5)))
     go_ret;exact⟨rfl,bel⟩
   | some y=>
     rw [qgi hk2] at HU2;have hy:=qks hk2
     rw [HP.out x y hk hk2]
     have HG:=hdQ (fun w=>qti x.lo.x x.lo.y x.hi.x x.hi.y y.lo.x y.lo.y y.hi.x y.hi.y w hx hy)
     rw [show (⟨⟨x.lo.x,x.lo.y⟩,⟨x.hi.x,x.hi.y⟩⟩:Bx)=x from rfl,show (⟨⟨y.lo.x,y.lo.y⟩,⟨y.hi.x,y.hi.y⟩⟩:Bx)=y from rfl] at HG
     have hlt:qny x y<=4611686009837453316:=by unfold qny;exact zcy (Nat.sub_le _ _) (qlj _)
     generalize qny x y=m at*;have e1:decide ((4611686018427387904:Int)<(m:Int))=false:=decide_eq_false oQ
     have e2:IntKind.i64.wrap (m:Int)=m:=by rw [IntKind.wrap_i64];omega
     clear hl hl2 hk hk2 HP hx hy hlt
     go_enter Tryz.func167,Tryz.ntmps167
     go_wp2_with (first|(go_at_call 173;have _hz:=hz5;(with_reducible refine(HU2.out _ bel).monoR ?_);rintro w6 hb6 hc6 hf6 hz6;(try simp at hz6);have hy62:=ol1 w5 w6)|(go_at_call 173;(with_reducible refine(HU.out _ bel).monoR ?_);rintro w5 hb5 hc5 hf5 hz5;(try simp at hz5))|(go_at_call 174;(with_reducible refine(HG.out _).monoR ?_);rintro w7 hb7 hc7 hf7 hz7;(try simp at hz7)))
     go_ret;exact⟨rfl,bel⟩
def qcl (L:List (List Nat)):List Bx:=L.filterMap qbx
def qfk (L:List (List Nat)):List Nat:=if (qb4 (qcl L)).2=0 then keyL (qb4 (qcl L)).1 else []
theorem qln {l:List Bx} (hl:l≠ []) (h:∀b∈l,okBx b=true):(qb4 l).2=0/\okBx (qb4 l).1=true/\∀b∈l,inB (qb4 l).1 b:=by
 cases l with
 | nil=>exact absurd rfl hl
 | cons a r=>
   obtain⟨h1,h2,h3,h4⟩:=qfl (a::r) a (fun b hb=>qcd.1 (h b hb))
   have e:(qb4 (a::r)).1=(qbr a (a::r)).1:=rfl;have hA:=(Pg.qbh a).1 (h a sI)
   have hl:inB ⟨⟨-1073741823,-1073741823⟩,⟨1073741823,1073741823⟩⟩ (qbr a (a::r)).1:=h4 _ (by rw [Pg.qay,Pg.qay] at hA;unfold inB;simp only;omega) (by
    intro c hc;have hc:=(Pg.qbh c).1 (h c hc);rw [Pg.qay,Pg.qay] at hc
    unfold inB;simp only;omega)
   refine⟨h1,?_,h3⟩;have h3a:=h3 a sI
   rw [Pg.qbh,Pg.qay,Pg.qay,e]
   unfold inB at hl h3a
   simp only at hl
   omega
theorem qmy {L:List (List Nat)} {b:Bx} (h:b∈qcl L):okBx b=true:=by
 unfold qcl at h;obtain⟨l,_,h⟩:=List.mem_filterMap.1 h;exact qks h
theorem qkl (L:List (List Nat)):(qcl L).length<=L.length:=List.length_filterMap_le _ _
theorem qoa {L:List (List Nat)} {k:Nat} (hk:k<L.length) (h:qbx (L.getD k [])=none):qcl (L.take (k+1))=qcl (L.take k):=by
 have e:L[k]? =some (L.getD k []):=by rw [zpy,zby hk];rfl
 unfold qcl
 rw [zwy,e,List.filterMap_append,Option.toList_some,List.filterMap_cons_none h,List.filterMap_nil,List.append_nil]
theorem qn9 {L:List (List Nat)} {k:Nat} {b:Bx} (hk:k<L.length) (h:qbx (L.getD k [])=some b):qcl (L.take (k+1))=qcl (L.take k)++ [b]:=by
 have e:L[k]? =some (L.getD k []):=by rw [zpy,zby hk];rfl
 unfold qcl
 rw [zwy,e,List.filterMap_append,Option.toList_some,List.filterMap_cons_some h,List.filterMap_nil]
theorem qjo (L:List (List Nat)) (k:Nat):(qcl (L.take k)).length<=k:=zcy (qkl _) (by simp;omega)
theorem qpn (B n c:Nat) (A:Option Addr) (L:List (List Nat)) (w:World) (hl:qez w B A n L) (hB:B<=w.heap.size) (hn2:n<=1000000) (h256:∀l∈L,∀x∈l,x<256) (hlen:∀l∈L,l.length<=1000000):
 C9 169 #[.slice A n c] w (RetB w (qfk L)):=by
 have hLn:=hl.1;obtain⟨i0,hi,iz0,iz1,iz2⟩:=info_parts Tryz.infoBox
 go_enter Tryz.func169,Tryz.ntmps169
 go_wp2_with fail
 go_loopw [3,4] (fun vl vi wr=>∃(k:Nat),k<=n/\vi=.int .i64 k/\wr.ownsRow w.heap.size 77 4 vl (qcl (L.take k)).length (qch (qcl (L.take k)))/\Below w.heap.size w wr) (fun _ vi _=>n-(intOf vi).toNat)
 case atStart=>exact ⟨0,by omega,rfl,World.ownsRow_nil _ _ _ _,bel⟩
 case round=>
  obtain⟨k,hk,rfl,hown,hb⟩:=hrel
  by_cases hlt:k<n
  · obtain⟨b,off,A',n',c',rfl,hab,hcell,hby,he,hz,hnc⟩:=(hl.below (hb.mono hB)).at_ hlt
    have hmem:L.getD k []∈L:=zjy he;have hn' :n' <=1000000:=by rw [<-hby.1];exact hlen _ hmem
    have hBw:B<=wr.heap.size:=zcy hB hb.size;have HU:=hdQ (fun w' (h:Below wr.heap.size wr w')=>qfw B n' c' A' (L.getD k []) w' (hby.tr h hBw) (h256 _ hmem) (zcy hBw h.size) hn' hnc hz)
    have hbw:b<wr.heap.size:=oQ
    have hk0:(k:Int)<(n:Int):=oQ
    have hkl:k<L.length:=oQ
    have hbk:=qjo L k
    cases hu:qbx (L.getD k []) with
    | none=>
      rw [qgj hu] at HU;have hst:=qoa hkl hu
      go_wp2_with (go_at_call 173;(with_reducible refine(HU.out _ bel).monoR ?_);rintro w1 hb1 hc1 hf1 hz1;(try simp at hz1))
      have hbz:Below wr.heap.size wr w1:=bel
      go_roundw
      case rel=>exact ⟨k+1,by omega,by go_num,by rw [hst];exact qcj hown bel,bel⟩
      case measure=>simp [intOf];omega
    | some p=>
      rw [qgi hu] at HU;have hst:=qn9 hkl hu
      go_wp2_with (first|(go_at_call 173;(with_reducible refine(HU.out _ bel).monoR ?_);rintro w1 hb1 hc1 hf1 hz1;(try simp at hz1))|(at_builtin;go_must (refine wpList_append_own _ rfl _ _ 75 rfl w.heap.size 77 i0 (.agg #[.int .i64 0,.int .i64 0,.int .i64 0,.int .i64 0]) 4 32 Tryz.underlying75 hi iz0 iz1 iz2 rfl dE _ _ _ rfl (qcj hown bel) ⟨w1.heap.size+1,0,none⟩ 1 1 [.int .i64 p.lo.x,.int .i64 p.lo.y,.int .i64 p.hi.x,.int .i64 p.hi.y] rfl rfl ?c1 ?c2 ?c3 ?c4 ?c5 ?_)))
      case c1=>
       intro j u hj
       match j,hj with
       | 0,hj=>simp at hj;subst hj;simp [Addr.add]
       | 1,hj=>simp at hj;subst hj;simp [Addr.add]
       | 2,hj=>simp at hj;subst hj;simp [Addr.add]
       | 3,hj=>simp at hj;subst hj;simp [Addr.add]
      case c2=>intro u hu;simp only [List.mem_cons,List.not_mem_nil,or_false] at hu;rcases hu with rfl|rfl|rfl|rfl<;>rfl
      case c3=>unfold maxLen;omega
      case c4=>omega
      case c5=>have:=hb.size;simp;omega
      intro v' w2 hown' hgrow _;have hlt' :=hown.lt;have hb2:Below w.heap.size w w2:=Below.grown (w:=_) bel hgrow (by have:=hb.size;simp;omega) (fun j e=>by have:=(hlt' j e).1;omega)
      have hown2:w2.ownsRow w.heap.size 77 4 v' (qcl (L.take (k+1))).length (qch (qcl (L.take (k+1)))):=by
       rw [hst,qfe,zny]
       exact hown'
      clear hown' hgrow hown hlt';go_wp2
      go_roundw
      case rel=>exact ⟨k+1,by omega,by go_num,hown2,hb2⟩
      case measure=>simp [intOf];omega
  · obtain rfl:n=k:=oQ
    rw [zmy oQ] at hown
    have hbl:=qkl L;obtain⟨A2,c2,rfl,hbx⟩:=qf7 hown rfl;have HUn:=hdQ (qhx wr.heap.size _ c2 A2 (qcl L) wr hbx (zhy _) oQ)
    by_cases hne:qcl L= []
    · have hu0:qfk L= []:=by unfold qfk;rw [hne];rfl
      have HU0:=hdQ hu0;rw [hne] at HUn
      rw [hne]
      simp only [show (qb4 []).1=qbz from rfl,show (qb4 []).2=1 from rfl,qbz,List.length_nil] at HUn ⊢
      clear hown hbx hl hu0
      go_wp2_with (go_at_call 103;(with_reducible refine HUn.out.monoR ?_);rintro w1 hb1 hc1 hf1 hz1;(try simp at hz1))
      go_ret;refine⟨_,rfl,?_,bel⟩
      rw [HU0.out]
      exact World.ownsRow_nil _ _ _ _
    · obtain⟨hu0,hu1,_⟩:=qln hne (fun b hb=>qmy hb)
      have hu2:qfk L=keyL (qb4 (qcl L)).1:=by unfold qfk;rw [if_pos hu0]
      have HU2:=hdQ hu2;rw [hu0] at HUn;obtain⟨x,hx⟩:∃x,(qb4 (qcl L)).1=x:=⟨_,rfl⟩;obtain⟨N,hN⟩:∃x,(qcl L).length=x:=⟨_,rfl⟩;rw [hx] at HUn hu1 HU2
      rw [hN] at HUn ⊢
      have HK:=hdQ (fun w=>qky x.lo.x x.lo.y x.hi.x x.hi.y (qk6 hu1) w)
      rw [show (⟨⟨x.lo.x,x.lo.y⟩,⟨x.hi.x,x.hi.y⟩⟩:Bx)=x from rfl] at HK
      clear hown hbx hl hu0 hu1 hu2 hx hN hbl
      go_wp2_with (first|(go_at_call 103;(with_reducible refine HUn.out.monoR ?_);rintro w1 hb1 hc1 hf1 hz1;(try simp at hz1))|(go_at_call 165;(with_reducible refine(HK.out _).mono ?_);rintro e w6 ⟨s6,rfl,ho6,hb6⟩))
      go_ret;refine⟨_,rfl,?_,bel⟩
      rw [HU2.out]
      exact qd7 (base' :=w.heap.size) ho6 (by have:=hb.size;have:=hb1.size;(try simp);omega)
end Go.Proofs.YteodamnfgcnmmaaGreat

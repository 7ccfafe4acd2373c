/-The law for a drawn region whose last operations (an append to an olde-/
import Derived.Test.YtfnhnjbkkggbeaaGreatKLex
set_option linter.unusedVariables false
set_option linter.unusedSimpArgs false
namespace Pg
open Go Go.RowKit
section
variable {P:Program} {ops:Array Oper} {Q:Exit->Act->World->Prop} {S:World->Prop} {pp qq:List Nat}
def qjt (P:Program) (ops:Array Oper) (Q:Exit->Act->World->Prop) (pp qq:List Nat) (S:World->Prop):Nat->Array Bool->Act->World->Prop
 | 0,listed,a,w=>Region.ready .any ops listed= []/\Q .normal a w
 | fuel+1,listed,a,w=>
   (Region.ready .any ops listed= []->Q .normal a w)/\
   ∀i∈Region.ready .any ops listed,wpOp P ops Q i (fun a' w' =>((i∈pp->S w')/\(i∈qq->S w->S w'))/\qjt P ops Q pp qq S fuel (listed.setIfInBounds i true) a' w') a w
theorem qlo:∀(fuel:Nat) (listed:Array Bool) (a:Act) (w:World),qjt P ops Q pp qq S fuel listed a w->wpAny P .any ops Q fuel listed a w
 | 0,_,_,_,h=>h
 | fuel+1,_,_,_,h=>⟨h.1,fun i hi=>wpOp_mono (fun a' w' h' =>qlo fuel _ a' w' h'.2) (h.2 i hi)⟩
def Closed (ops:Array Oper) (L:Array Bool):Prop:=∀k o,ops[k]? =some o->L.getD k false=true->∀e∈o.after,Region.binds .any e=true->L.getD e.on false=true
theorem qpf (n:Nat):Closed ops (Array.replicate n false):=by
 intro k o _ h
 exfalso
 rw [Array.getD_eq_getD_getElem?] at h
 rcases zry k n with q|q
 · simp [q] at h
 · simp [q] at h
theorem qgu {L:Array Bool} {i:Nat} (h:Closed ops L) (hi:i∈Region.ready .any ops L):Closed ops (L.setIfInBounds i true):=by
 have mono:∀k,L.getD k false=true->(L.setIfInBounds i true).getD k false=true:=by
  intro k hk
  rw [Array.getD_eq_getD_getElem?,Array.getElem?_setIfInBounds] at*
  split
  · split<;>simp_all
  · exact hk
 intro k o ho hk e he hb
 by_cases hki:k=i
 · subst hki
   obtain⟨_,o',ho',h2⟩:=mem_ready.1 hi
   rw [ho] at ho'
   cases ho'
   exact mono _ (h2 e he hb)
 · refine mono _ (h k o ho ?_ e he hb)
   rw [Array.getD_eq_getD_getElem?,Array.getElem?_setIfInBounds,if_neg (fun q=>hki q.symm),<-Array.getD_eq_getD_getElem?] at hk
   exact hk
def qjv (ops:Array Oper):Nat->Nat->Nat->Bool
 | 0,_,_=>false
 | n+1,j,i=>match ops[j]? with
   | none=>false
   | some o=>o.after.any fun e=>Region.binds .any e&&(e.on==i||qjv ops n e.on i)
theorem qnr {L:Array Bool} (h:Closed ops L) {i:Nat}:∀(n j:Nat) (o:Oper),ops[j]? =some o->(∀e∈o.after,Region.binds .any e=true->L.getD e.on false=true)->qjv ops n j i=true->L.getD i false=true:=by
 intro n
 induction n with
 | zero=>intro j o _ _ hw;cases hw
 | succ n ih=>
   intro j o ho hl hw;unfold qjv at hw;rw [ho] at hw;obtain⟨k,hk,hb⟩:=Array.any_eq_true.1 hw;rw [ziy,Bool.or_eq_true,beq_iff_eq] at hb;have h1:=hl o.after[k] (Array.getElem_mem hk) hb.1
   rcases hb.2 with q|q
   · rw [<-q];exact h1
   · have hsz:∃o',ops[(o.after[k]).on]? =some o' :=by
      cases hq:ops[(o.after[k]).on]? with
      | some o' =>exact ⟨o',rfl⟩
      | none=>
        cases n with
        | zero=>cases q
        | succ n=>unfold qjv at q;rw [hq] at q;cases q
     obtain⟨o',ho'⟩:=hsz;exact ih _ o' ho' (h _ o' ho' h1) q
theorem qiu {i:Nat} {oi:Oper} {v:Value} {T:World->Prop} (hi:ops[i]? =some oi) (hsel:∀(j:Nat) (o:Oper) cs b,ops[j]? =some o->o.op≠ .select cs b)
 (hQ:∀c a w,Q (.panic c) (a.put oi.dst v) w->Q (.panic c) a w) (hwait:(T=S/\∀j oj,ops[j]? =some oj->j ∉ pp->qjv ops ops.size j i=true\/j∈qq)\/(i ∉ pp/\∀w,T w)):
 ∀(fuel:Nat) (listed:Array Bool) (a:Act) (w:World),Closed ops listed->
  (∀j oj,ops[j]? =some oj->j≠i->listed.getD j true=false->(∀e∈oj.after,Region.binds .any e=true->e.on≠i)->oi.apart ops oj=true)->
  i∈Region.ready .any ops listed->YieldsIf P ops T oi v a->T w->(i∈pp->S w)->
  qjt P ops Q pp qq S fuel (listed.setIfInBounds i true) (a.put oi.dst v) w->qjt P ops Q pp qq S (fuel+1) listed a w:=by
 intro fuel
 induction fuel with
 | zero=>
   intro listed a w _ _ hr hy hT hS H;refine⟨fun h=>(by rw [h] at hr;cases hr),fun j hj=> ?_⟩
   by_cases hji:j=i
   · subst hji;exact hy.wpOp hi hT ⟨⟨hS,fun _ h=>h⟩,H⟩
   · have:=ready_mono hj hji
     rw [H.1] at this
     cases this
 | succ fuel ih=>
   intro listed a w hcl hfree hr hy hT hS H;refine⟨fun h=>(by rw [h] at hr;cases hr),fun j hj=> ?_⟩
   by_cases hji:j=i
   · subst hji;exact hy.wpOp hi hT ⟨⟨hS,fun _ h=>h⟩,H⟩
   · have h1:=H.2 j (ready_mono hj hji)
     obtain⟨hjun,oj,hoj,hall⟩:=mem_ready.1 hj
     have hnot:∀e∈oj.after,Region.binds .any e=true->e.on≠i:=fun e he hb heq=>by
      have h1:=hall e he hb;have h0:=(mem_ready.1 hr).1;rw [heq] at h1
      rcases zry i listed.size with h'|h'
      · simp [h'] at h0 h1;rw [h0] at h1;cases h1
      · simp [zxy h'] at h1
     have hjp:(T=S/\(j∈pp\/j∈qq))\/(i ∉ pp/\∀w,T w):=by
      rcases hwait with ⟨hTS,hw⟩|q
      · refine .inl ⟨hTS, ?_⟩
        by_cases hn:j∈pp
        · exact .inl hn
        · rcases hw j oj hoj hn with hw|q
          · exfalso
            have h0:=(mem_ready.1 hr).1;have h1:=qnr hcl _ j oj hoj hall hw;rw [Array.getD_eq_getD_getElem?] at h0 h1
            cases hq:listed[i]? with
            | none=>rw [hq] at h1;cases h1
            | some b=>rw [hq] at h0 h1;simp at h0 h1;rw [h0] at h1;cases h1
          · exact .inr q
      · exact .inr q
     have h2:=wpOp_putIf hoj (hfree j oj hoj hji hjun hnot) (fun cs b=>hsel i oi cs b hi) (fun cs b=>hsel j oj cs b hoj) hQ hy h1
     have hfree' :∀k ok,ops[k]? =some ok->k≠i->(listed.setIfInBounds j true).getD k true=false->
      (∀e∈ok.after,Region.binds .any e=true->e.on≠i)->oi.apart ops ok=true:=fun k ok hk hki hun hno=>by
      refine hfree k ok hk hki ?_ hno
      by_cases hjk:j=k
      · subst hjk;exact hjun
      · rw [getD_set_ne true hjk] at hun;exact hun
     refine wpOp_mono (fun a' w' h3=>⟨h3.2.1,ih (listed.setIfInBounds j true) a' w' (qgu hcl hj) hfree' (ready_mono hr (Ne.symm hji)) h3.1 ?_ ?_ ?_⟩) h2
     · rcases hjp with ⟨q,q2|q2⟩|q
       · rw [q];exact h3.2.1.1 q2
       · rw [q] at hT ⊢;exact h3.2.1.2 q2 hT
       · exact q.2 _
     · intro hip
       rcases hjp with ⟨_,q2|q2⟩|q
       · exact h3.2.1.1 q2
       · exact h3.2.1.2 q2 (hS hip)
       · exact absurd hip q.1
     · rw [Array.setIfInBounds_comm _ _ hji]
       exact h3.2.2
def seqH (P:Program) (ops:Array Oper) (Q:Exit->Act->World->Prop):List Nat->Act->World->Prop
 | [],a,w=>Q .normal a w
 | i::r,a,w=>wpOp P ops Q i (seqH P ops Q r) a w
def seqQ (P:Program) (ops:Array Oper) (Q:Exit->Act->World->Prop) (r:List Nat):Exit->Act->World->Prop
 | .normal,a,w=>seqH P ops Q r a w
 | x,a,w=>Q x a w
def qvn (ops:Array Oper):List Nat->Array Bool->Bool
 | [],listed=>Region.ready .any ops listed== []
 | i::r,listed=>Region.ready .any ops listed== [i]&&qvn ops r (listed.setIfInBounds i true)
def qy4 (ops:Array Oper) (r:List Nat):List Nat->Array Bool->Bool
 | [],listed=>qvn ops r listed
 | i::p,listed=>(if quietAt ops i then Region.free .any ops listed i&&(Region.ready .any ops listed).contains i else Region.ready .any ops listed== [i])&&qy4 ops r p (listed.setIfInBounds i true)
theorem q2r:∀(r:List Nat) (fuel:Nat) (listed:Array Bool) (a:Act) (w:World),(∀i∈r,i ∉ pp/\i ∉ qq)->r.length<=fuel->qvn ops r listed=true->seqH P ops Q r a w->qjt P ops Q pp qq S fuel listed a w:=by
 intro r
 induction r with
 | nil=>
   intro fuel listed a w _ _ hk h;have hr:Region.ready .any ops listed= []:=by simpa [qvn] using hk
   cases fuel with
   | zero=>exact ⟨hr,h⟩
   | succ f=>exact ⟨fun _=>h,by rw [hr];simp⟩
 | cons i r ih=>
   intro fuel listed a w hp hf hk h;obtain⟨n,rfl⟩:∃n,fuel=n+1:=⟨fuel-1,by simp at hf;omega⟩
   simp only [qvn,ziy,beq_iff_eq] at hk;refine⟨fun e=>(by rw [hk.1] at e;cases e),fun j hj=> ?_⟩
   rw [hk.1] at hj;have hj:j=i:=by simpa using hj
   subst hj;exact wpOp_mono (fun a' w' hh=>⟨⟨fun hm=>absurd hm (hp j sI).1,fun hm=>absurd hm (hp j sI).2⟩,ih n _ a' w' (fun x hx=>hp x (by simp [hx])) (by simpa using hf) hk.2 hh⟩) h
theorem q2i {i:Nat} {K:Act->World->Prop} {r:List Nat} {a:Act} {w:World} (h:wpOp P ops (seqQ P ops Q r) i K a w):wpOp P ops Q i K a w:=by
 unfold wpOp at*
 split
 · rename_i e;rw [e] at h;exact h
 · rename_i o e
   rw [e] at h
   simp only at h
   split
   · rename_i hw
     rw [if_pos hw] at h
     rcases h with h|⟨h1,h2⟩
     · exact .inl (qil (fun _ _ h=>h) (fun _ _ _ h=>h) (fun⟨a,w,h⟩=>⟨a,w,h⟩) h)
     · exact .inr ⟨h1,(fun⟨a,w,h⟩=>⟨a,w,h⟩) h2⟩
   · rename_i hw
     rw [if_neg hw] at h;exact h
def qc0 (o:Oper):Bool:=(match o.op with | .move _ | .binOp .. | .build .. =>true|_=>false)&&o.guard.isNone
def lexM (P:Program) (Q:Exit->Act->World->Prop) (S:World->Prop):List ((Oper×Option (Option Tmp×Bool))×Bool)->Act->World->Prop
 | [],a,w=>Q .normal a w
 | ((o,g),b)::r,a,w=>(∃v,qaz o.op=true/\qeg g a.tmps=true/\(∀w,(b=false->S w)->(execOp a.eval o).run P w=.ok (.value v) w)/\lexM P Q S r (a.put o.dst v) w)\/(b=false/\qeg g a.tmps=false/\S w/\lexM P Q S r (a.put o.dst undef) w)\/
     (qaz o.op=false/\qeg g a.tmps=true/\o.wp P a w (fun a' w' =>S w' /\lexM P Q S r a' w') Q)
theorem qtv {l:List Oper} (hs:Region.noSelect l.toArray=true) (hQ:∀c a d v w,Q (.panic c) (a.put d v) w->Q (.panic c) a w) (r:List Nat) (hr:∀i∈r,i ∉ pp/\i ∉ qq)
 (hwait:∀i∈pp,∀j oj,l.toArray[j]? =some oj->j ∉ pp->qjv l.toArray l.toArray.size j i=true\/j∈qq):∀(p:List Nat) (fuel:Nat) (listed:Array Bool) (a:Act) (w:World),Closed l.toArray listed->
 (∀i∈p,i<l.length/\((qc0 (l.getD i default)=false/\i∈pp)\/(qc0 (l.getD i default)=true/\i ∉ pp/\i∈qq/\quietAt l.toArray i=true)))->p.length+r.length<=fuel->qy4 l.toArray r p listed=true->S w->
 lexM P (seqQ P l.toArray Q r) S (p.map fun i=>((bare (l.getD i default),qak l (l.getD i default)),qc0 (l.getD i default))) a w->qjt P l.toArray Q pp qq S fuel listed a w:=by
 intro p
 induction p with
 | nil=>
   intro fuel listed a w _ _ hf hp _ h;exact q2r r fuel listed a w hr (by simpa using hf) hp h
 | cons i p ih=>
   intro fuel listed a w hcl hl hf hp hS h;obtain⟨n,rfl⟩:∃n,fuel=n+1:=⟨fuel-1,by simp at hf;omega⟩
   have hn:p.length+r.length<=n:=by simp at hf;omega
   simp only [qy4,ziy] at hp;obtain⟨hp1,hp2⟩:=hp;obtain⟨hil,hc⟩:=hl i sI
   have hi:l.toArray[i]? =some (l.getD i default):=by simp [zpy,hil]
   have hl' :=fun j hj=>hl j (List.mem_cons_of_mem i hj)
   have hqa:quietAt l.toArray i=qaz (l.getD i default).op:=by unfold quietAt;rw [hi]
   rw [zdy] at h;unfold lexM at h;rw [<-qf4] at h
   have hready:i∈Region.ready .any l.toArray listed:=by
    by_cases hq:quietAt l.toArray i=true
    · rw [if_pos hq,ziy] at hp1;simpa using hp1.2
    · rw [if_neg hq] at hp1
      have:Region.ready .any l.toArray listed= [i]:=by simpa using hp1
      rw [this];simp
   -- taken first, with the evidence at hand
   have take:∀v,quietAt l.toArray i=true->(∀T:World->Prop,((qc0 (l.getD i default)=false->T=S)/\(qc0 (l.getD i default)=true->∀w,T w))->YieldsIf P l.toArray T (l.getD i default) v a)->lexM P (seqQ P l.toArray Q r) S (p.map fun i=>((bare (l.getD i default),qak l (l.getD i default)),qc0 (l.getD i default))) (a.put (l.getD i default).dst v) w->qjt P l.toArray Q pp qq S (n+1) listed a w:=by
    intro v hq hy h;rw [if_pos hq,ziy] at hp1;have hrest:=ih n _ _ w (qgu hcl hready) hl' hn hp2 hS h
    rcases hc with ⟨c1,c2⟩|⟨c1,c2,c3,_⟩
    · exact qiu (T:=S) hi (Region.noSelect_spec hs) (fun c a w hh=>hQ c a _ _ w hh) (.inl ⟨rfl,hwait i c2⟩) n listed a w hcl (Region.free_spec hi hp1.1) hready (hy S ⟨fun _=>rfl,fun h=>absurd (h.symm.trans c1) dE⟩) hS (fun _=>hS) hrest
    · exact qiu (T:=fun _=>True) hi (Region.noSelect_spec hs) (fun c a w hh=>hQ c a _ _ w hh) (.inr ⟨c2,fun _=>trivial⟩) n listed a w hcl (Region.free_spec hi hp1.1) hready (hy _ ⟨fun h=>absurd (h.symm.trans c1) dE,fun _ _=>trivial⟩) trivial (fun q=>absurd q c2) hrest
   rcases h with ⟨v,hk,hw,hy,h⟩|⟨hb,hw,hS2,h⟩|⟨hk,hw,h⟩
   · refine take v (by rw [hqa];exact hk) (fun T hT=> .inl ⟨hw,fun w hTw=> ?_⟩) h
     rw [<-qcb]
     refine hy w fun hb=> ?_
     rw [hT.1 hb] at hTw;exact hTw
   · by_cases hq:quietAt l.toArray i=true
     · exact take undef hq (fun T _=> .inr ⟨hw,rfl⟩) h
     · rw [if_neg hq] at hp1
       have hr1:Region.ready .any l.toArray listed= [i]:=by simpa using hp1
       refine⟨fun e=>(by rw [hr1] at e;cases e),fun j hj=> ?_⟩
       rw [hr1] at hj;have hj:j=i:=by simpa using hj
       subst hj;unfold wpOp
       simp only [hi,hw]
       exact⟨⟨fun _=>hS,fun _ h=>h⟩,ih n _ _ w (qgu hcl hready) hl' hn hp2 hS h⟩
   · have hq:¬ quietAt l.toArray i=true:=by
      rw [hqa]
      have:qaz (l.getD i default).op=false:=hk
      rw [this];simp
     rw [if_neg hq] at hp1;have hr1:Region.ready .any l.toArray listed= [i]:=by simpa using hp1
     refine⟨fun e=>(by rw [hr1] at e;cases e),fun j hj=> ?_⟩
     rw [hr1] at hj;have hj:j=i:=by simpa using hj
     subst hj;refine q2i (r:=r) ?_;unfold wpOp
     simp only [hi,hw,if_true]
     have h' :(l.getD j default).wp P a w (fun a' w' =>S w' /\lexM P (seqQ P l.toArray Q r) S (p.map fun i=>((bare (l.getD i default),qak l (l.getD i default)),qc0 (l.getD i default))) a' w') (seqQ P l.toArray Q r):=by
      unfold Oper.wp at h ⊢;rw [qcb] at h;exact h
     exact .inl (Oper.wp_mono (fun a' w' hh=>⟨⟨fun _=>hh.1,fun _ _=>hh.1⟩,ih n _ a' w' (qgu hcl hready) hl' hn hp2 hh.1 hh.2⟩) h')
def seqL (P:Program) (Q:Exit->Act->World->Prop):List Oper->Act->World->Prop
 | [],a,w=>Q .normal a w
 | o::r,a,w=>o.wp P a w (seqL P Q r) Q
theorem qvo {l:List Oper}:∀(r:List Nat) (a:Act) (w:World),(∀i∈r,i<l.length/\(l.getD i default).guard=none)->seqL P Q (r.map fun i=>bare (l.getD i default)) a w->seqH P l.toArray Q r a w:=by
 intro r
 induction r with
 | nil=>intro a w _ h;exact h
 | cons i r ih=>
   intro a w hl h;obtain⟨h1,h2⟩:=hl i sI
   have hi:l.toArray[i]? =some (l.getD i default):=by simp [zpy,h1]
   unfold seqH wpOp
   rw [hi]
   have hw:Region.wanted (l.getD i default) (yielded l.toArray a.tmps)=true:=by unfold Region.wanted;rw [h2]
   simp only [hw,if_true]
   rw [zdy] at h;unfold seqL at h;refine .inl ?_;generalize l.getD i default=o at*
   have h3:o.wp P a w (seqL P Q (r.map fun i=>bare (l.getD i default))) Q:=by
    unfold Oper.wp at h ⊢;rw [qcb] at h;exact h
   exact Oper.wp_mono (fun a' w' hh=>ih a' w' (fun j hj=>hl j (by simp [hj])) hh) h3
def seqE (P:Program) (Q:Exit->Act->World->Prop) (r:List Oper):Exit->Act->World->Prop
 | .normal,a,w=>seqL P Q r a w
 | x,a,w=>Q x a w
theorem qwx {Q1 Q2:Exit->Act->World->Prop} (hn:∀a w,Q1 .normal a w->Q2 .normal a w) (h1:∀c a w,Q1 (.panic c) a w->Q2 (.panic c) a w) (h2:LetsOut Q1->LetsOut Q2):∀(l:List ((Oper×Option (Option Tmp×Bool))×Bool)) (a:Act) (w:World),lexM P Q1 S l a w->lexM P Q2 S l a w:=by
 intro l
 induction l with
 | nil=>intro a w h;unfold lexM at h ⊢;exact hn a w h
 | cons x l ih=>
   obtain⟨⟨o,g⟩,b⟩:=x;intro a w h;unfold lexM at h ⊢
   rcases h with ⟨v,hk,hw,hy,h⟩|⟨hb,h3,hS,h⟩|⟨hk,hw,h⟩
   · exact .inl ⟨v,hk,hw,hy,ih _ _ h⟩
   · exact .inr (.inl ⟨hb,h3,hS,ih _ _ h⟩)
   · exact .inr (.inr ⟨hk,hw,qil (fun a' w' hh=>⟨hh.1,ih _ _ hh.2⟩) h1 h2 h⟩)
def ppOf (l:List Oper) (p:List Nat):List Nat:=p.filter fun i=> !qc0 (l.getD i default)
def qqOf (l:List Oper) (p:List Nat):List Nat:=p.filter fun i=>qc0 (l.getD i default)
def qrs (l:List Oper) (p r:List Nat):Bool:=
 Region.noSelect l.toArray&&(decide (p.length+r.length<=l.length)&&(qy4 l.toArray r p (Array.replicate l.length false)&&(p.all (fun i=>decide (i<l.length)&&(!qc0 (l.getD i default)||quietAt l.toArray i)) &&
 (r.all (fun i=>decide (i<l.length)&&((l.getD i default).guard.isNone&&!p.contains i))&&(List.range l.length).all fun j=>(ppOf l p).contains j||(qqOf l p).contains j||(ppOf l p).all fun i=>qjv l.toArray l.toArray.size j i))))
theorem qax (p r:List Nat) {l:List Oper} {id:Nat} {a:Act} {w:World} (hm:P.follows .mixedOrders=true) (hs:qrs l p r=true) (hQ:∀c a d v w,Q (.panic c) (a.put d v) w->Q (.panic c) a w)
 (h:lexM P (seqE P Q (r.map fun i=>bare (l.getD i default))) (fun w' =>Below w.heap.size w w') (p.map fun i=>((bare (l.getD i default),qak l (l.getD i default)),qc0 (l.getD i default))) a w.drew):(Code.region id l.toArray true).wp P Q a w:=by
 simp only [qrs,ziy,decide_eq_true_eq,List.all_eq_true,Bool.not_eq_true',Option.isNone_iff_eq_none,List.mem_range,Bool.or_eq_true] at hs;obtain⟨h1,h2,h3,h4,h5,h6⟩:=hs
 have get:∀{j o},l.toArray[j]? =some o->j<l.length:=fun {j o} ho=>by
  rcases zry j l.length with q|q
  · exact q
  · rw [zxy (by simpa using q)] at ho;cases ho
 refine wp_region_any hm (qlo (pp:=ppOf l p) (qq:=qqOf l p) (S:=fun w' =>Below w.heap.size w w') _ _ _ _ ?_)
 refine qtv h1 hQ r (fun i hi=> ?_) (fun i hi j oj hoj hj=> ?_) p _ _ a _ (qpf _) (fun i hi=> ?_) (by simpa using h2) (by simpa using h3) ((Below.refl _ _).drew) ?_
 · have hno:i ∉ p:=fun hp=>by
    have:=(h5 i hi).2.2;rw [List.contains_iff_mem.2 hp] at this
    cases this
   exact⟨fun q=>hno (List.mem_filter.1 q).1,fun q=>hno (List.mem_filter.1 q).1⟩
 · rcases h6 j (get hoj) with (q|q)|q
   · exact absurd (List.contains_iff_mem.1 q) hj
   · exact .inr (List.contains_iff_mem.1 q)
   · exact .inl (q i hi)
 · obtain⟨q1,q2⟩:=h4 i hi
   refine⟨q1,?_⟩
   cases hb:qc0 (l.getD i default) with
   | false=>exact .inl ⟨rfl,List.mem_filter.2 ⟨hi,by rw [hb];rfl⟩⟩
   | true=>
     refine .inr ⟨rfl,fun q=> ?_,List.mem_filter.2 ⟨hi,hb⟩,?_⟩
     · have:=(List.mem_filter.1 q).2
       rw [hb] at this
       cases this
     · rcases q2 with q|q
       · rw [hb] at q;cases q
       · exact q
 · exact qwx (Q1:=seqE P Q (r.map fun i=>bare (l.getD i default))) (Q2:=seqQ P l.toArray Q r) (fun a w hh=>qvo r a w (fun i hi=>⟨(h5 i hi).1,(h5 i hi).2.1⟩) hh) (fun _ _ _ h=>h) (fun⟨a,w,h⟩=>⟨a,w,h⟩) _ _ _ h
theorem qao {o:Oper} {r:List Oper} {a:Act} {w:World} (h:∀K:Act->World->Prop,Shut (∀a w,seqL P Q r a w->K a w)->o.wp P a w K Q):seqL P Q (o::r) a w:=
 h _ (fun _ _ h=>h)
theorem qbr {a:Act} {w:World} (h:Q .normal a w):seqL P Q [] a w:=h
section
variable {l:List ((Oper×Option (Option Tmp×Bool))×Bool)} {o:Oper} {g:Option (Option Tmp×Bool)} {v:Value} {a:Act} {w:World} {b:Bool}
theorem qbs {r:List Oper} (h:seqL P Q r a w):lexM P (seqE P Q r) S [] a w:=h
theorem qbh (hw:qeg g a.tmps=true) (hk:qaz o.op=true) (hy:∀w,(execOp a.eval o).run P w=.ok (.value v) w) (h:lexM P Q S l (a.put o.dst v) w):lexM P Q S (((o,g),true)::l) a w:=
 .inl ⟨v,hk,hw,fun w _=>hy w,h⟩
theorem qa6 (hw:qeg g a.tmps=true) (hk:qaz o.op=true) (hy:∀w,S w->(execOp a.eval o).run P w=.ok (.value v) w) (h:lexM P Q S l (a.put o.dst v) w):lexM P Q S (((o,g),false)::l) a w:=
 .inl ⟨v,hk,hw,fun w hS=>hy w (hS rfl),h⟩
theorem qa7 (hw:qeg g a.tmps=true) (hk:qaz o.op=false) (h:∀K:Act->World->Prop,Shut (∀a w,S w->lexM P Q S l a w->K a w)->Oper.wp P o a w K Q):lexM P Q S (((o,g),b)::l) a w:=
 .inr (.inr ⟨hk,hw,h _ (fun _ _ hS hl=>⟨hS,hl⟩)⟩)
end
end
attribute [irreducible] seqL lexM
end Pg

/-The nearest-/
import Derived.Test.YtildgbhliaonnaaGreatRNearP
set_option linter.unusedVariables false
set_option linter.unusedSimpArgs false
namespace Pg
open Go Go.RowKit
theorem qqd {dist:Ob->Fr} {I:List (Int×Ob)} (hI:(I.map (·.1)).Nodup):(qdx dist I).Pairwise fun a b=>cmpN a b<0:=
 qpj (by rw [List.map_map];exact hI)
theorem qi3 {dist:Ob->Fr} {I:List (Int×Ob)} {a:Int×Fr}:a∈qdx dist I↔∃p∈I,a=(p.1,dist p.2):=by
 unfold qdx
 rw [(qf3 _).mem_iff,zty]
 constructor
 · rintro⟨p,h,rfl⟩;exact⟨p,h,rfl⟩
 · rintro⟨p,h,rfl⟩;exact⟨p,h,rfl⟩
theorem q2t {x y:Int×Fr} (h:¬ cmpN x y<0) (hne:x.1≠y.1):cmpN y x<0:=by
 rcases Int.lt_trichotomy (cmpN x y) 0 with q|q|q
 · exact absurd q h
 · exfalso
   unfold cmpN orI at q
   split at q
   · exact hne (qmb.1 q)
   · contradiction
 · exact(qdn.sw y x).2 q
theorem qnk {x y z:Int×Fr} (h:cmpN x y<0) (k:cmpN y z<0):cmpN x z<0:=by
 have h1:=qdn.le x y z oQ oQ
 rcases Int.lt_or_eq_of_le h1 with q|q
 · exact q
 · exfalso
   -- z is not behind x
   have h2:cmpN z x<=0:=by
    rcases Int.lt_or_le 0 (cmpN z x) with w|w
    · have:=(qdn.sw x z).2 w;omega
    · exact w
   have h3:=qdn.le z x y h2 oQ
   have h4:=(qdn.sw y z).1 k
   omega
theorem q4l {l:List (Int×Fr)} {n:Int×Fr} {k:Nat} (hl:l.Pairwise fun a b=>cmpN a b<0) (hne:∀x∈l,x.1≠n.1) (hk:k<=l.length) (h1:∀j x,k<=j->l[j]? =some x->cmpN n x<0) (h2:∀m x,k=m+1->l[m]? =some x->¬ cmpN n x<0):
 (l.take k++n::l.drop k).Pairwise fun a b=>cmpN a b<0:=by
 have hd:∀x∈l.drop k,cmpN n x<0:=fun x hx=>by
  obtain⟨j,hj⟩:=List.mem_iff_getElem?.1 hx;rw [List.getElem?_drop] at hj;exact h1 _ _ (Nat.le_add_right _ _) hj
 have ht:∀x∈l.take k,cmpN x n<0:=fun x hx=>by
  cases k with
  | zero=>simp at hx
  | succ m=>
    obtain⟨j,hj⟩:=List.mem_iff_getElem?.1 hx
    have hjm:j<m+1:=by
     rcases zry j (m+1) with q|q
     · exact q
     · rw [zoy (by rw [List.length_take];omega)] at hj;cases hj
    rw [List.getElem?_take,if_pos hjm] at hj;have hml:m<l.length:=hk;have hm2:=zby hml;have h3:=q2t (h2 m _ rfl hm2) (fun e=>hne _ (List.getElem_mem hml) e.symm)
    rcases zry j m with q|q
    · obtain⟨hjl,ej⟩:=zsy.1 hj
      have h4:=List.pairwise_iff_getElem.1 hl j m hjl hml q;rw [ej] at h4;exact qnk h4 h3
    · obtain rfl:j=m:=oQ
      rw [hm2] at hj
      cases hj
      exact h3
 rw [List.pairwise_append,List.pairwise_cons]
 refine⟨hl.sublist (List.take_sublist _ _),⟨hd,hl.sublist (List.drop_sublist _ _)⟩,fun a ha b hb=> ?_⟩
 rcases List.mem_cons.1 hb with q|q
 · rw [q];exact ht a ha
 · exact qnk (ht a ha) (hd b q)
theorem qy0 {dist:Ob->Fr} {I:List (Int×Ob)} {i k:Nat} {p:Int×Ob} (hI:(I.map (·.1)).Nodup) (hp:I[i]? =some p) (hk:k<=(qdx dist (I.take i)).length) (h1:∀j x,k<=j->(qdx dist (I.take i))[j]? =some x->cmpN (p.1,dist p.2) x<0)
 (h2:∀m x,k=m+1->(qdx dist (I.take i))[m]? =some x->¬ cmpN (p.1,dist p.2) x<0):qdx dist (I.take (i+1))=(qdx dist (I.take i)).take k++(p.1,dist p.2)::(qdx dist (I.take i)).drop k:=by
 have hn:∀j,((I.take j).map (·.1)).Nodup:=fun j=>by
  rw [List.map_take]
  exact hI.sublist (List.take_sublist _ _)
 have hne:∀x∈qdx dist (I.take i),x.1≠p.1:=fun x hx e=>by
  obtain⟨q,hq,rfl⟩:=qi3.1 hx;have h3:=hn (i+1);rw [zwy,hp,zfx,List.nodup_append] at h3;exact h3.2.2 q.1 (zty.2 ⟨q,hq,rfl⟩) p.1 sI e
 refine qqa (qqd (hn _)) (q4l (qqd (hn _)) hne hk h1 h2) fun a=> ?_
 have hm:a∈(qdx dist (I.take i)).take k++(p.1,dist p.2)::(qdx dist (I.take i)).drop k↔a=(p.1,dist p.2)\/a∈qdx dist (I.take i):=by
  rw [List.mem_append,List.mem_cons]
  have:a∈qdx dist (I.take i)↔a∈(qdx dist (I.take i)).take k\/a∈(qdx dist (I.take i)).drop k:=by
   rw [<-List.mem_append,List.take_append_drop]
  rw [this]
  constructor
  · rintro(q|q|q)
    · exact .inr (.inl q)
    · exact .inl q
    · exact .inr (.inr q)
  · rintro(q|q|q)
    · exact .inr (.inl q)
    · exact .inl q
    · exact .inr (.inr q)
 rw [hm,qi3,qi3,zwy,hp]
 constructor
 · rintro⟨q,hq,rfl⟩
   rcases List.mem_append.1 hq with z|z
   · exact .inr ⟨q,z,rfl⟩
   · simp at z
     subst z;exact .inl rfl
 · rintro(rfl|⟨q,hq,rfl⟩)
   · exact⟨p,List.mem_append.2 (.inr sI),rfl⟩
   · exact⟨q,List.mem_append.2 (.inl hq),rfl⟩
end Pg

/-Contracts of package rel: box, verts, interval.-/
import Derived.Test.YtfnhnjbkkggbeaaGreatKRing
set_option linter.unusedVariables false
set_option linter.unusedSimpArgs false
set_option maxHeartbeats 2000000
set_option maxRecDepth 20000
namespace Go.Proofs.YtfnhnjbkkggbeaaGreat
open Go.RowKit Pg
abbrev obV (k:Int) (A:Option Addr) (n c:Nat):Value:=.agg #[.int .i64 k,.slice A n c]
abbrev bxW (b:Bx):Value:=bxV b.lo.x b.lo.y b.hi.x b.hi.y
theorem qdl (B n c:Nat) (k:Int) (A:Option Addr) (l:List Pt) (w:World) (hl:qal w B A n l) (hB:B<=w.heap.size) (h1:k=1\/k=2->1<=n) (h2:k=3->2<=n):
 C9 60 #[obV k A n c] w (Ret w (.tuple #[bxW (qbz ⟨k,l⟩),.bool (qdj ⟨k,l⟩)])):=by
 by_cases k1:k=1
 · subst k1
   have hn:=h1 (.inl rfl);obtain⟨b,off,rfl,hab,c0,c1⟩:=hl.at_ (k:=0) hn;have hn' :0<n:=oQ
   have hbw:b<w.heap.size:=oQ
   have hbw1:b<w.heap.size+1:=oQ
   have hbw2:b<w.heap.size+1+1:=oQ
   simp only [Nat.zero_mul,Nat.add_zero] at c0 c1;have HR:Hid (qbz ⟨1,l⟩=⟨pt l 0,pt l 0⟩):=by simp [Hid,qbz]
   go_enter Tryz.func60,Tryz.ntmps60
   go_wp2_with fail;refine qbd (w.heap.size+1) [0,1,2,3,4,5,6,7,8,9,10] kr kr pq ?_
   simp only [zdy,zey,ldz,lds,bare,qak,lcz,lcs,zay]
   repeat' ((try simp only [Act.put,lsi,lsz,lss]);first|(refine lqy ?_)|(refine qab qaa rfl (fun K hK=> ?_);go_simp;((first|fail|skip)<;>(refine hK.out _ _ (by first|with_reducible exact qcj|with_reducible exact Below.drew qcj|exact bel) ?_;clear hK K))))
   (all_goals try simp only [Act.put,lsi,lsz,lss]);all_goals(refine qad ?_)
   go_wp2;exact bodyPost_ret (v:=.tuple #[bxW (qbz ⟨1,l⟩),.bool (qdj ⟨1,l⟩)]) (by simp [results,Tryz.results60,go_sem,HR.out,qdj]) rfl ⟨rfl,bel⟩
 by_cases k2:k=2
 · subst k2
   have hn:=h1 (.inr rfl);obtain⟨b,off,rfl,hab,c0,c1⟩:=hl.at_ (k:=0) hn;have hn' :0<n:=oQ
   have hbw:b<w.heap.size:=oQ
   have hbw1:b<w.heap.size+1:=oQ
   have hbw2:b<w.heap.size+1+1:=oQ
   simp only [Nat.zero_mul,Nat.add_zero] at c0 c1;have HR:Hid (qbz ⟨2,l⟩=⟨⟨(pt l 0).x,0⟩,⟨(pt l 0).y,0⟩⟩):=by simp [Hid,qbz]
   go_enter Tryz.func60,Tryz.ntmps60
   go_wp2_with fail;refine qbd (w.heap.size+1) [0,1,2,3,4,5,6,7,8,9,10,11,12,13,14] kr kr pq ?_
   simp only [zdy,zey,ldz,lds,bare,qak,lcz,lcs,zay]
   repeat' ((try simp only [Act.put,lsi,lsz,lss]);first|(refine lqy ?_)|(refine qab qaa rfl (fun K hK=> ?_);go_simp;((first|fail|skip)<;>(refine hK.out _ _ (by first|with_reducible exact qcj|with_reducible exact Below.drew qcj|exact bel) ?_;clear hK K))))
   (all_goals try simp only [Act.put,lsi,lsz,lss]);all_goals(refine qad ?_)
   go_wp2;exact bodyPost_ret (v:=.tuple #[bxW (qbz ⟨2,l⟩),.bool (qdj ⟨2,l⟩)]) (by simp [results,Tryz.results60,go_sem,HR.out,qdj]) rfl ⟨rfl,bel⟩
 by_cases k3:k=3
 · subst k3
   have hn:=h2 rfl;obtain⟨b,off,rfl,hab,c0,c1⟩:=hl.at_ (k:=0) oQ
   obtain⟨b',off',he,hab',c2,c3⟩:=hl.at_ (k:=1) oQ
   injection he with he
   injection he with he1 he2
   subst he1 he2;have hn' :0<n:=oQ
   have hn2:1<n:=oQ
   have hn3:(1:Int)<n:=oQ
   have hbw:b<w.heap.size:=oQ
   have hbw1:b<w.heap.size+1:=oQ
   have hbw2:b<w.heap.size+1+1:=oQ
   simp only [Nat.zero_mul,Nat.add_zero,Nat.one_mul] at c0 c1 c2 c3;have HR:Hid (qbz ⟨3,l⟩=⟨pt l 0,pt l 1⟩):=by simp [Hid,qbz]
   go_enter Tryz.func60,Tryz.ntmps60
   go_wp2_with fail;refine qbd (w.heap.size+1) [0,1,2,3,4,5,6,7,8,9,10] kr kr pq ?_
   simp only [zdy,zey,ldz,lds,bare,qak,lcz,lcs,zay]
   repeat' ((try simp only [Act.put,lsi,lsz,lss]);first|(refine lqy ?_)|(refine qab qaa rfl (fun K hK=> ?_);go_simp;((first|fail|skip)<;>(refine hK.out _ _ (by first|with_reducible exact qcj|with_reducible exact Below.drew qcj|exact bel) ?_;clear hK K))))
   (all_goals try simp only [Act.put,lsi,lsz,lss]);all_goals(refine qad ?_)
   go_wp2;exact bodyPost_ret (v:=.tuple #[bxW (qbz ⟨3,l⟩),.bool (qdj ⟨3,l⟩)]) (by simp [results,Tryz.results60,go_sem,HR.out,qdj]) rfl ⟨rfl,bel⟩
 · have HR:Hid (qbz ⟨k,l⟩=qcg):=by simp [Hid,qbz,k1,k2,k3]
   have HI:Hid (qdj ⟨k,l⟩=false):=by simp [Hid,qdj,k1,k2,k3]
   go_enter Tryz.func60,Tryz.ntmps60
   go_wp2;exact bodyPost_ret (v:=.tuple #[bxW (qbz ⟨k,l⟩),.bool (qdj ⟨k,l⟩)]) (by simp [results,Tryz.results60,go_sem,HR.out,HI.out,qcg]) rfl ⟨rfl,bel⟩
theorem qe9 (k:Int) (w:World):C9 89 #[.int .i64 k] w (Ret w (.int .i64 (if k=3 then 2 else 1))):=by
 by_cases h:k=3
 all_goals
  go_enter Tryz.func89,Tryz.ntmps89
  go_wp2;go_ret;exact⟨rfl,bel⟩
theorem qoq (x y:Int) (w:World):C9 90 #[ptV x y] w (Ret w (errV (qk3 ⟨x,y⟩))):=by
 cases h:okPt ⟨x,y⟩
 · have HE:Hid (errV (if okPt ⟨x,y⟩=true then 0 else 2)=.iface 75 (.int .i64 2)):=by unfold Hid;rw [h];rfl
   have HF:Hid (qk3 ⟨x,y⟩=2):=by simp [Hid,qk3,h]
   clear h
   go_enter Tryz.func90,Tryz.ntmps90
   go_wp2_with (go_at_call 32;refine(qay _ _ _).mono ?_;rw [HE.out];rintro e w1 ⟨rfl,hb1⟩;obtain⟨hc1,hf1,hz1⟩:=bc3 hb1;(try simp at hz1);have hy0:=ol1 w w1)
   go_ret;exact⟨by rw [HF.out];rfl,bel⟩
 · have HE:Hid (errV (if okPt ⟨x,y⟩=true then 0 else 2)=.nilIface):=by unfold Hid;rw [h];rfl
   have HF:Hid (qk3 ⟨x,y⟩=if y<x then 1 else 0):=by simp [Hid,qk3,h]
   clear h
   by_cases hlt:y<x
   all_goals
    go_enter Tryz.func90,Tryz.ntmps90
    go_wp2_with (go_at_call 32;refine(qay _ _ _).mono ?_;rw [HE.out];rintro e w1 ⟨rfl,hb1⟩;obtain⟨hc1,hf1,hz1⟩:=bc3 hb1;(try simp at hz1);have hy0:=ol1 w w1)
    go_ret;exact⟨by rw [HF.out];first|(rw [if_pos oQ];rfl)|(rw [if_neg oQ];rfl),bel⟩
def ErrC (w:World) (v:Value) (k:Nat):Prop:=v=errV k\/ErrR w v k
def RetC (w:World) (k:Nat):Ending->World->Prop:=fun e w' =>∃v,e=.returned v/\ErrC w' v k/\Below w.heap.size w w'
def ErrW (w:World) (v:Value) (k:Nat) (s:ByteArray) (id:Int):Prop:=(k=0/\v=.nilIface)\/(k≠0/\∃(g:Nat) (inner:Value),v=qo2 g/\Blk w g 124 #[.string s,.int .i64 id,inner]/\ErrC w inner k)
def RetW (w:World) (k:Nat) (s:ByteArray) (id:Int):Ending->World->Prop:=fun e w' =>∃v,e=.returned v/\ErrW w' v k s id/\Below w.heap.size w w'
theorem ErrR.alloc {w:World} {v:Value} {k:Nat} (h:ErrR w v k) (o:Obj):ErrR (w.alloc o) v k:=by
 rcases h with h|⟨h0,g,s,id,e,hb⟩
 · exact .inl h
 · exact .inr ⟨h0,g,s,id,e,hb.alloc o⟩
theorem ErrC.alloc {w:World} {v:Value} {k:Nat} (h:ErrC w v k) (o:Obj):ErrC (w.alloc o) v k:=by
 rcases h with h|h
 · exact .inl h
 · exact .inr (h.alloc o)
theorem ErrC.zero {w:World} {v:Value} (h:ErrC w v 0):v=.nilIface:=by
 rcases h with h|⟨_,h⟩|⟨h,_⟩
 · exact h
 · exact h
 · exact absurd rfl h
theorem ErrC.succ {w:World} {v:Value} {k:Nat} (h:ErrC w v k) (hk:k≠0):∃t u,v=.iface t u:=by
 rcases h with h|⟨h,_⟩|⟨_,g,s,id,e,hb⟩
 · cases k with
   | zero=>exact absurd rfl hk
   | succ k=>exact ⟨_,_,h⟩
 · exact absurd h hk
 · exact⟨_,_,e⟩
theorem q13 {k:Nat} (hk:k≠0):errV k=.iface 75 (.int .i64 k):=by
 cases k with
 | zero=>exact absurd rfl hk
 | succ k=>rfl
theorem qrk (s:ByteArray) (id:Int) (v:Value) (k:Nat) (w:World) (hv:ErrC w v k):
 C9 51 #[.string s,.int .i64 id,v] w (RetW w k s id):=by
 by_cases hk:k=0
 · subst hk
   have:=hv.zero;subst this
   go_enter Tryz.func51,Tryz.ntmps51
   go_wp2;go_ret;exact⟨_,rfl,.inl ⟨rfl,rfl⟩,bel⟩
 · obtain⟨t,u,rfl⟩:=hv.succ hk
   go_enter Tryz.func51,Tryz.ntmps51
   go_wp2;go_ret;exact⟨_,rfl,.inr ⟨hk,_,_,rfl,Blk.new rfl rfl,hv.alloc _⟩,bel⟩
theorem qf8 (B n c:Nat) (k:Int) (A:Option Addr) (l:List Pt) (w:World) (hl:qal w B A n l) (hB:B<=w.heap.size) (hn:n<=1000000):
 C9 59 #[obV k A n c] w (RetC w (ckOb ⟨k,l⟩)):=by
 by_cases k1:k=1
 · subst k1
   by_cases h:n=1
   · subst h
     have HF:Hid (ckOb ⟨1,l⟩=qa4 (qbz ⟨1,l⟩)):=by simp [Hid,ckOb,qbz,hl.1]
     go_enter Tryz.func59,Tryz.ntmps59
     go_wp2_with fail;refine qac kr kr pq ?_
     simp only [zdy,zey,ldz,lds,bare,qak,lcz,lcs,zay]
     repeat' ((try simp only [Act.put,lsi,lsz,lss]);first|(refine lqx ?_)|(refine qab qaa rfl (fun K hK=> ?_);go_simp;((first|(go_at_call 89;refine(qe9 _ _).monoR ?_;rintro w1 hb1 hc1 hf1 hz1;(try simp at hz1);have hy0:=ol1 w w1)|skip)<;>(refine hK.out _ _ bel ?_;clear hK K))))
     (all_goals try simp only [Act.put,lsi,lsz,lss]);all_goals(refine qad ?_)
     go_wp2_with (first|(go_at_call 60;refine(qdl B 1 c 1 A l _ (hl.tr bel hB) (bsz w hB) oQ oQ).monoR ?_;rintro w1 hb1 hc1 hf1 hz1;(try simp at hz1);have hy0:=ol1 w w1)|(go_at_call 77;refine(qb6 _ _ _ _ _).monoR ?_;rintro w1 hb1 hc1 hf1 hz1;(try simp at hz1);have hy0:=ol1 w w1))
     go_ret;exact⟨_,rfl,.inl (by rw [HF.out];rfl),bel⟩
   · have HF:Hid (ckOb ⟨1,l⟩=3):=by simp [Hid,ckOb,hl.1,h]
     have hne:¬ (n:Int)=1:=oQ
     go_enter Tryz.func59,Tryz.ntmps59
     go_wp2_with fail;refine qac kr kr pq ?_
     simp only [zdy,zey,ldz,lds,bare,qak,lcz,lcs,zay]
     repeat' ((try simp only [Act.put,lsi,lsz,lss]);first|(refine lqx ?_)|(refine qab qaa rfl (fun K hK=> ?_);go_simp;((first|(go_at_call 89;refine(qe9 _ _).monoR ?_;rintro w1 hb1 hc1 hf1 hz1;(try simp at hz1);have hy0:=ol1 w w1)|skip)<;>(refine hK.out _ _ bel ?_;clear hK K))))
     (all_goals try simp only [Act.put,lsi,lsz,lss]);all_goals(refine qad ?_)
     go_wp2;go_ret;exact⟨_,rfl,.inl (by rw [HF.out];rfl),bel⟩
 by_cases k2:k=2
 · subst k2
   by_cases h:n=1
   · subst h
     have HF:Hid (ckOb ⟨2,l⟩=qk3 (pt l 0)):=by simp [Hid,ckOb,hl.1]
     obtain⟨b,off,rfl,hab,c0,c1⟩:=hl.at_ (k:=0) oQ
     simp only [Nat.zero_mul,Nat.add_zero] at c0 c1;have hbw:b<w.heap.size:=oQ
     have hbw1:b<w.heap.size+1:=oQ
     go_enter Tryz.func59,Tryz.ntmps59
     go_wp2_with fail;refine qac kr kr pq ?_
     simp only [zdy,zey,ldz,lds,bare,qak,lcz,lcs,zay]
     repeat' ((try simp only [Act.put,lsi,lsz,lss]);first|(refine lqx ?_)|(refine qab qaa rfl (fun K hK=> ?_);go_simp;((first|(go_at_call 89;refine(qe9 _ _).monoR ?_;rintro w1 hb1 hc1 hf1 hz1;(try simp at hz1);have hy0:=ol1 w w1)|skip)<;>(refine hK.out _ _ bel ?_;clear hK K))))
     (all_goals try simp only [Act.put,lsi,lsz,lss]);all_goals(refine qad ?_)
     go_wp2_with (go_at_call 90;refine(qoq _ _ _).monoR ?_;rintro w1 hb1 hc1 hf1 hz1;(try simp at hz1);have hy0:=ol1 w w1)
     go_ret;exact⟨_,rfl,.inl (by rw [HF.out];rfl),bel⟩
   · have HF:Hid (ckOb ⟨2,l⟩=3):=by simp [Hid,ckOb,hl.1,h]
     have hne:¬ (n:Int)=1:=oQ
     go_enter Tryz.func59,Tryz.ntmps59
     go_wp2_with fail;refine qac kr kr pq ?_
     simp only [zdy,zey,ldz,lds,bare,qak,lcz,lcs,zay]
     repeat' ((try simp only [Act.put,lsi,lsz,lss]);first|(refine lqx ?_)|(refine qab qaa rfl (fun K hK=> ?_);go_simp;((first|(go_at_call 89;refine(qe9 _ _).monoR ?_;rintro w1 hb1 hc1 hf1 hz1;(try simp at hz1);have hy0:=ol1 w w1)|skip)<;>(refine hK.out _ _ bel ?_;clear hK K))))
     (all_goals try simp only [Act.put,lsi,lsz,lss]);all_goals(refine qad ?_)
     go_wp2;go_ret;exact⟨_,rfl,.inl (by rw [HF.out];rfl),bel⟩
 by_cases k3:k=3
 · subst k3
   by_cases h:n=2
   · subst h
     have HF:Hid (ckOb ⟨3,l⟩=qa4 (qbz ⟨3,l⟩)):=by simp [Hid,ckOb,qbz,hl.1]
     go_enter Tryz.func59,Tryz.ntmps59
     go_wp2_with fail;refine qac kr kr pq ?_
     simp only [zdy,zey,ldz,lds,bare,qak,lcz,lcs,zay]
     repeat' ((try simp only [Act.put,lsi,lsz,lss]);first|(refine lqx ?_)|(refine qab qaa rfl (fun K hK=> ?_);go_simp;((first|(go_at_call 89;refine(qe9 _ _).monoR ?_;rintro w1 hb1 hc1 hf1 hz1;(try simp at hz1);have hy0:=ol1 w w1)|skip)<;>(refine hK.out _ _ bel ?_;clear hK K))))
     (all_goals try simp only [Act.put,lsi,lsz,lss]);all_goals(refine qad ?_)
     go_wp2_with (first|(go_at_call 60;refine(qdl B 2 c 3 A l _ (hl.tr bel hB) (bsz w hB) oQ oQ).monoR ?_;rintro w1 hb1 hc1 hf1 hz1;(try simp at hz1);have hy0:=ol1 w w1)|(go_at_call 77;refine(qb6 _ _ _ _ _).monoR ?_;rintro w1 hb1 hc1 hf1 hz1;(try simp at hz1);have hy0:=ol1 w w1))
     go_ret;exact⟨_,rfl,.inl (by rw [HF.out];rfl),bel⟩
   · have HF:Hid (ckOb ⟨3,l⟩=3):=by simp [Hid,ckOb,hl.1,h]
     have hne:¬ (n:Int)=2:=oQ
     go_enter Tryz.func59,Tryz.ntmps59
     go_wp2_with fail;refine qac kr kr pq ?_
     simp only [zdy,zey,ldz,lds,bare,qak,lcz,lcs,zay]
     repeat' ((try simp only [Act.put,lsi,lsz,lss]);first|(refine lqx ?_)|(refine qab qaa rfl (fun K hK=> ?_);go_simp;((first|(go_at_call 89;refine(qe9 _ _).monoR ?_;rintro w1 hb1 hc1 hf1 hz1;(try simp at hz1);have hy0:=ol1 w w1)|skip)<;>(refine hK.out _ _ bel ?_;clear hK K))))
     (all_goals try simp only [Act.put,lsi,lsz,lss]);all_goals(refine qad ?_)
     go_wp2;go_ret;exact⟨_,rfl,.inl (by rw [HF.out];rfl),bel⟩
 by_cases k4:k=4
 · subst k4
   have HF:Hid (ckOb ⟨4,l⟩=qbn l):=by simp [Hid,ckOb]
   go_enter Tryz.func59,Tryz.ntmps59
   go_wp2_with (go_at_call 78;refine(qh5 B n c A l _ (hl.tr bel hB) (bsz w hB) hn).mono ?_;rintro e w1 ⟨v1,rfl,hv1,hb1⟩;obtain⟨hc1,hf1,hz1⟩:=bc3 hb1;(try simp at hz1))
   go_ret;exact⟨_,rfl,.inr (by rw [HF.out];exact hv1),bel⟩
 · have HF:Hid (ckOb ⟨k,l⟩=5):=by simp [Hid,ckOb,k1,k2,k3,k4]
   go_enter Tryz.func59,Tryz.ntmps59
   go_wp2;go_ret;exact⟨_,rfl,.inl (by rw [HF.out];rfl),bel⟩
theorem qgi (B n c:Nat) (k:Int) (A:Option Addr) (l:List Pt) (w:World) (hl:qal w B A n l) (hB:B<=w.heap.size) (hn:n<=1000000):
 C9 50 #[obV k A n c] w (RetW w (ckOb ⟨k,l⟩) ⟨#[111,98,106,101,99,116]⟩ k):=by
 go_enter Tryz.func50,Tryz.ntmps50
 go_wp2_with fail;refine qac kr kr pq ?_
 simp only [zdy,zey,ldz,lds,bare,qak,lcz,lcs,zay]
 repeat' ((try simp only [Act.put,lsi,lsz,lss]);first|(refine lqx ?_)|(refine qab qaa rfl (fun K hK=> ?_);go_simp;((first|(go_at_call 59;refine(qf8 B n c k A l _ (hl.tr bel hB) (bsz w hB) hn).mono ?_;rintro e w1 ⟨v1,rfl,hv1,hb1⟩;obtain⟨hc1,hf1,hz1⟩:=bc3 hb1;(try simp at hz1))|(go_at_call 51;refine(qrk _ _ _ _ _ hv1).mono ?_;rintro e w2 ⟨v2,rfl,hv2,hb2⟩;obtain⟨hc2,hf2,hz2⟩:=bc3 hb2;(try simp at hz2))|skip)<;>(refine hK.out _ _ bel ?_;clear hK K))))
 (all_goals try simp only [Act.put,lsi,lsz,lss]);all_goals(refine qad ?_)
 go_wp2;go_ret;exact⟨_,rfl,hv2,bel⟩
abbrev quV (k:Int) (b:Bx) (A:Option Addr) (n c:Nat):Value:=.agg #[.int .i64 k,.int .i64 b.lo.x,.int .i64 b.lo.y,.int .i64 b.hi.x,.int .i64 b.hi.y,.slice A n c]
theorem qkc (B n c:Nat) (k:Int) (b:Bx) (A:Option Addr) (l:List Pt) (w:World) (hl:qal w B A n l) (hB:B<=w.heap.size) (hn:n<=1000000):
 C9 52 #[quV k b A n c] w (RetC w (ckQu ⟨k,b,l⟩)):=by
 by_cases k12:k=1\/k=2
 · have HF:Hid (ckQu ⟨k,b,l⟩=qa4 b):=by rcases k12 with rfl|rfl<;>simp [Hid,ckQu]
   rcases k12 with rfl|rfl
   all_goals
    go_enter Tryz.func52,Tryz.ntmps52
    go_wp2_with (go_at_call 77;refine(qb6 _ _ _ _ _).monoR ?_;rintro w1 hb1 hc1 hf1 hz1;(try simp at hz1);have hy0:=ol1 w w1)
    go_ret;exact⟨_,rfl,.inl (by rw [HF.out];rfl),bel⟩
 have k1:¬ k=1:=fun h=>k12 (.inl h)
 have k2:¬ k=2:=fun h=>k12 (.inr h)
 clear k12
 by_cases k3:k=3
 · subst k3
   have HP:∀w',C9 32 #[ptV b.lo.x b.lo.y] w' (Ret w' (errV (ckQu ⟨3,b,l⟩))):=fun w' =>by
    have h:=qay b.lo.x b.lo.y w';have e:(if okPt ⟨b.lo.x,b.lo.y⟩=true then 0 else 2)=ckQu ⟨3,b,l⟩:=by simp [ckQu]
    rw [e] at h;exact h
   go_enter Tryz.func52,Tryz.ntmps52
   go_wp2_with (go_at_call 32;refine(HP _).monoR ?_;rintro w1 hb1 hc1 hf1 hz1;(try simp at hz1);have hy0:=ol1 w w1)
   go_ret;exact⟨_,rfl,.inl rfl,bel⟩
 by_cases k4:k=4
 · subst k4
   have HF:Hid (ckQu ⟨4,b,l⟩=qbn l):=by simp [Hid,ckQu]
   go_enter Tryz.func52,Tryz.ntmps52
   go_wp2_with (go_at_call 78;refine(qh5 B n c A l _ (hl.tr bel hB) (bsz w hB) hn).mono ?_;rintro e w1 ⟨v1,rfl,hv1,hb1⟩;obtain⟨hc1,hf1,hz1⟩:=bc3 hb1;(try simp at hz1))
   go_ret;exact⟨_,rfl,.inr (by rw [HF.out];exact hv1),bel⟩
 · have HF:Hid (ckQu ⟨k,b,l⟩=5):=by simp [Hid,ckQu,k1,k2,k3,k4]
   go_enter Tryz.func52,Tryz.ntmps52
   go_wp2;go_ret;exact⟨_,rfl,.inl (by rw [HF.out];rfl),bel⟩
theorem qg4 (B n c:Nat) (k:Int) (b:Bx) (A:Option Addr) (l:List Pt) (w:World) (hl:qal w B A n l) (hB:B<=w.heap.size) (hn:n<=1000000):
 C9 27 #[quV k b A n c] w (RetW w (ckQu ⟨k,b,l⟩) ⟨#[113,117,101,114,121]⟩ k):=by
 go_enter Tryz.func27,Tryz.ntmps27
 go_wp2_with fail;refine qac kr kr pq ?_
 simp only [zdy,zey,ldz,lds,bare,qak,lcz,lcs,zay]
 repeat' ((try simp only [Act.put,lsi,lsz,lss]);first|(refine lqx ?_)|(refine qab qaa rfl (fun K hK=> ?_);go_simp;((first|(go_at_call 52;refine(qkc B n c k b A l _ (hl.tr bel hB) (bsz w hB) hn).mono ?_;rintro e w1 ⟨v1,rfl,hv1,hb1⟩;obtain⟨hc1,hf1,hz1⟩:=bc3 hb1;(try simp at hz1))|(go_at_call 51;refine(qrk _ _ _ _ _ hv1).mono ?_;rintro e w2 ⟨v2,rfl,hv2,hb2⟩;obtain⟨hc2,hf2,hz2⟩:=bc3 hb2;(try simp at hz2))|skip)<;>(refine hK.out _ _ bel ?_;clear hK K))))
 (all_goals try simp only [Act.put,lsi,lsz,lss]);all_goals(refine qad ?_)
 go_wp2;go_ret;exact⟨_,rfl,hv2,bel⟩
theorem qwk {w:World} {B n b off k:Nat} {l:List Pt} (hl:qal w B (some ⟨b,off,none⟩) n l) (hk:k<n):
 w.cell? ⟨b,off+(k+1)%n*2,none⟩=some (.int .i64 (nx l k).x)/\w.cell? ⟨b,off+(k+1)%n*2+1,none⟩=some (.int .i64 (nx l k).y):=by
 obtain⟨b',off',e,_,c0,c1⟩:=hl.at_ (k:=(k+1)%n) (Nat.mod_lt _ oQ)
 injection e with e
 injection e with e1 e2
 subst e1 e2
 rw [nx,hl.1]
 exact⟨c0,c1⟩
theorem q3h {l:List Pt} {b:Bx} {k:Nat} (hk:k<l.length) (h:mbox (pt l k) (nx l k) b=true):cutS l b=true:=by
 unfold cutS
 rw [qby _ (fun j=>mbox (pt l j) (nx l j) b) k hk h]
 rfl
theorem qj1 {k n:Nat} (hk:k<n) (hn:n<=1000000):∃m:Nat,(k+1)%n=m/\IntKind.i64.wrap ((k:Int)+1)=(k:Int)+1/\((k:Int)+1).tmod (n:Int)=(m:Int)/\m<n:=by
 refine⟨(k+1)%n,rfl,IntWalk.i64_in _ oQ,?_,Nat.mod_lt _ oQ⟩
 rw [Int.tmod_eq_emod_of_nonneg oQ,Int.natCast_emod]
 rfl
theorem qxl (B n c:Nat) (b0:Bx) (A:Option Addr) (l:List Pt) (w:World) (hl:qal w B A n l) (hB:B<=w.heap.size) (hn:n<=1000000):
 C9 122 #[.slice A n c,bxW b0] w (Ret w (.bool (cutS l b0))):=by
 go_enter Tryz.func122,Tryz.ntmps122
 go_wp2
 go_loopw [9] (fun i wr=>∃k:Nat,k<=n/\i=.int .i64 k/\Hid (∀j,j<k->mbox (pt l j) (nx l j) b0=false)/\Blk wr w.heap.size 48 #[.int .i64 b0.lo.x,.int .i64 b0.lo.y,.int .i64 b0.hi.x,.int .i64 b0.hi.y]/\Below w.heap.size w wr) (fun i _=>n-(intOf i).toNat)
 case atStart=>exact ⟨0,zly _,rfl,fun j hj=>by omega,Blk.new rfl rfl,bel⟩
 case round=>
  obtain⟨k,hk,rfl,hno,hP,hb⟩:=hrel
  by_cases hlt:k<n
  · obtain⟨b,off,rfl,hab,c0,c1⟩:=(hl.below (hb.mono hB)).at_ hlt
    obtain⟨c2,c3⟩:=qwk (hl.below (hb.mono hB)) hlt;have hPl:=hP.lt;have hPc:=hP.cell;have hPl:=hP.lt;have hbs:=hb.size;have hbw:b<wr.heap.size:=oQ
    have hbw1:b<wr.heap.size+1:=oQ
    have hpw1:w.heap.size<wr.heap.size+1:=oQ
    have hk0:(k:Int)<(n:Int):=oQ
    obtain⟨m,hm,hwr,htm,hml⟩:=qj1 hlt hn;rw [hm] at c2 c3;clear hm;have hn0:¬ n=0:=oQ
    have hml0:(m:Int)<(n:Int):=oQ
    go_wp2_with fail;refine qac kr kr pq ?_
    simp only [zdy,zey,ldz,lds,bare,qak,lcz,lcs,zay]
    repeat' ((try simp only [Act.put,lsi,lsz,lss]);first|(refine lqx ?_)|(refine qab qaa rfl (fun K hK=> ?_);go_simp;((first|(go_at_call 145;refine(qom _ _ _ _ _ _ _ _ _).monoR ?_;rintro w1 hb1 hc1 hf1 hz1;(try simp at hz1);have hy0:=ol1 w w1)|skip)<;>(refine hK.out _ _ bel ?_;clear hK K))))
    (all_goals try simp only [Act.put,lsi,lsz,lss]);all_goals(refine qad ?_)
    go_wp2
    · go_ret
      exact⟨qae (q3h (by rw [hl.1];exact hlt) (by assumption)).symm,bel⟩
    · have hf:mbox ⟨(pt l k).x,(pt l k).y⟩ ⟨(nx l k).x,(nx l k).y⟩ ⟨⟨b0.lo.x,b0.lo.y⟩,⟨b0.hi.x,b0.hi.y⟩⟩=false:=by first|assumption|(simpa using (by assumption:¬ mbox ⟨(pt l k).x,(pt l k).y⟩ ⟨(nx l k).x,(nx l k).y⟩ ⟨⟨b0.lo.x,b0.lo.y⟩,⟨b0.hi.x,b0.hi.y⟩⟩=true))
      have HF:=hdQ hf;clear hf
      go_roundw
      case rel=>exact ⟨k+1,by omega,by go_num,fun j hj=>by
       by_cases e:j=k
       · subst e;exact HF.out
       · exact hno.out j oQ,blkA,bel⟩
      case measure=>simp [intOf];omega
  · have HF:Hid (cutS l b0=rhas l b0.lo):=by
     have h:(List.range l.length).any (fun j=>mbox (pt l j) (nx l j) b0)=false:=qbq _ _ fun j hj=>hno.out j (by rw [hl.1] at hj;omega)
     unfold Hid cutS
     rw [h];rfl
    have hPc:=hP.cell;have hPl:=hP.lt
    go_wp2_with (go_at_call 62;refine(qjc B n c _ _ A l _ (hl.tr bel hB) (bsz w hB) hn).monoR ?_;rintro w1 hb1 hc1 hf1 hz1;(try simp at hz1);have hy0:=ol1 w w1)
    go_ret;exact⟨qae HF.out.symm,bel⟩
theorem qud {a b:List Pt} {i k:Nat} (hi:i<a.length) (hk:k<b.length) (h:qd4 (pt a i) (nx a i) (pt b k) (nx b k)=true):qjm a b=true:=
 qby _ (fun i=>(List.range b.length).any fun k=>qd4 (pt a i) (nx a i) (pt b k) (nx b k)) i hi (qby _ (fun k=>qd4 (pt a i) (nx a i) (pt b k) (nx b k)) k hk h)
theorem que {a b:List Pt} (h:∀i,i<a.length->∀k,k<b.length->qd4 (pt a i) (nx a i) (pt b k) (nx b k)=false):qjm a b=false:=
 qbq _ _ fun i hi=>qbq _ _ fun k hk=>h i hi k hk
theorem qyp (B n c n' c' :Nat) (A A' :Option Addr) (l l' :List Pt) (w:World) (hl:qal w B A n l) (hl' :qal w B A' n' l') (hB:B<=w.heap.size) (hck:qbn l=0) (hck' :qbn l' =0):
 C9 123 #[.slice A n c,.slice A' n' c'] w (Ret w (.bool (qiz l l'))):=by
 have h3:3<=n/\n<=64:=by have:=qi5 hck;rw [hl.1] at this;exact this
 have h3' :3<=n' /\n' <=64:=by have:=qi5 hck';rw [hl'.1] at this;exact this
 have HC:=hdQ hck;have HC' :=hdQ hck';clear hck hck'
 cases hm:qde ⟨⟨(qar l).lo.x,(qar l).lo.y⟩,⟨(qar l).hi.x,(qar l).hi.y⟩⟩ ⟨⟨(qar l').lo.x,(qar l').lo.y⟩,⟨(qar l').hi.x,(qar l').hi.y⟩⟩
 · have HM:=hdQ hm
   clear hm;have HF:Hid (qiz l l' =false):=by unfold Hid qiz;rw [show qde (qar l) (qar l')=false from HM.out];rfl
   go_enter Tryz.func123,Tryz.ntmps123
   go_wp2_with (first|(go_at_call 125;have _hz:=hz1;refine(qfd B n' c' A' l' _ (hl'.tr bel hB) (bsz w hB) HC'.out).monoR ?_;rintro w2 hb2 hc2 hf2 hz2;(try simp at hz2);have hy2:=ol1 w1 w2)|(go_at_call 125;refine(qfd B n c A l _ (hl.tr bel hB) (bsz w hB) HC.out).monoR ?_;rintro w1 hb1 hc1 hf1 hz1;(try simp at hz1))|(go_at_call 121;refine(qkk _ _ _ _ _ _ _ _ _).mono ?_;rw [HM.out];rintro e w1 ⟨rfl,hb1⟩;obtain⟨hc1,hf1,hz1⟩:=bc3 hb1;(try simp at hz1)))
   go_ret;exact⟨qae HF.out.symm,bel⟩
 · have HM:=hdQ hm
   clear hm;have HF:Hid (qiz l l' =(qjm l l'||(rhas l (pt l' 0)||rhas l' (pt l 0)))):=by unfold Hid qiz;rw [show qde (qar l) (qar l')=true from HM.out];rfl
   go_enter Tryz.func123,Tryz.ntmps123
   go_wp2_with (first|(go_at_call 125;have _hz:=hz1;refine(qfd B n' c' A' l' _ (hl'.tr bel hB) (bsz w hB) HC'.out).monoR ?_;rintro w2 hb2 hc2 hf2 hz2;(try simp at hz2);have hy2:=ol1 w1 w2)|(go_at_call 125;refine(qfd B n c A l _ (hl.tr bel hB) (bsz w hB) HC.out).monoR ?_;rintro w1 hb1 hc1 hf1 hz1;(try simp at hz1))|(go_at_call 121;refine(qkk _ _ _ _ _ _ _ _ _).mono ?_;rw [HM.out];rintro e w1 ⟨rfl,hb1⟩;obtain⟨hc1,hf1,hz1⟩:=bc3 hb1;(try simp at hz1)))
   have hb0:Below w.heap.size w w1:=bel;clear hb1 hc1 hf1 hb2 hc2 hf2 _hz hz1;have hd1:decide ((1:Int)<=0)=false:=rfl
   go_loopw [29] (fun i wr=>∃k:Nat,k<=n/\i=.int .i64 k/\Hid (∀j,j<k->∀m,m<n' ->qd4 (pt l j) (nx l j) (pt l' m) (nx l' m)=false)/\Below w.heap.size w wr) (fun i _=>n-(intOf i).toNat)
   case atStart=>exact ⟨0,zly _,rfl,fun j hj=>by omega,hb0⟩
   case round=>
    obtain⟨k,hk,rfl,hno,hb⟩:=hrel
    by_cases hlt:k<n
    · obtain⟨b,off,rfl,hab,c0,c1⟩:=(hl.below (hb.mono hB)).at_ hlt
      have hbs:=hb.size;have hbw:b<wr.heap.size:=oQ
      have hk0:(k:Int)<(n:Int):=oQ
      obtain⟨wo,hwo⟩:∃wo:World,wo=wr:=⟨_,rfl⟩;subst hwo;go_wp2
      go_loopw [36] (fun i wr=>∃m:Nat,m<=n' /\i=.int .i64 m/\Hid (∀j,j<m->qd4 (pt l k) (nx l k) (pt l' j) (nx l' j)=false)/\Blk wr wo.heap.size 46 #[.int .i64 (pt l k).x,.int .i64 (pt l k).y]/\Below w.heap.size w wr) (fun i _=>n' - (intOf i).toNat)
      case atStart=>exact ⟨0,zly _,rfl,fun j hj=>by omega,Blk.new rfl rfl,bel⟩
      case round=>
       obtain⟨q,hq,rfl,hnq,hP,hb3⟩:=hrel
       by_cases hqt:q<n'
       · obtain⟨b',off',rfl,hab',d0,d1⟩:=(hl'.below (hb3.mono hB)).at_ hqt
         obtain⟨c2,c3⟩:=qwk (hl.below (hb3.mono hB)) hlt;obtain⟨d2,d3⟩:=qwk (hl'.below (hb3.mono hB)) hqt;have hPl:=hP.lt;have hPc:=hP.cell;have hbs3:=hb3.size;have hbw0:b<wr.heap.size:=oQ
         have hbw1:b<wr.heap.size+1:=oQ
         have hbw2:b' <wr.heap.size:=oQ
         have hbw3:b' <wr.heap.size+1:=oQ
         have hpw1:wo.heap.size<wr.heap.size+1:=oQ
         have hq0:(q:Int)<(n' :Int):=oQ
         obtain⟨m,hm,hwr,htm,hml⟩:=qj1 hlt oQ
         rw [hm] at c2 c3;clear hm;obtain⟨m',hm',hwr',htm',hml'⟩:=qj1 hqt oQ
         rw [hm'] at d2 d3;clear hm';have hn0:¬ n=0:=oQ
         have hn0' :¬ n' =0:=oQ
         have hml0:(m:Int)<(n:Int):=oQ
         have hml0' :(m' :Int)<(n' :Int):=oQ
         go_wp2_with fail;refine qac kr kr pq ?_
         simp only [zdy,zey,ldz,lds,bare,qak,lcz,lcs,zay]
         repeat' ((try simp only [Act.put,lsi,lsz,lss]);first|(refine lqx ?_)|(refine qab qaa rfl (fun K hK=> ?_);go_simp;((first|(go_at_call 139;refine(qm8 _ _ _ _ _ _ _ _ _).monoR ?_;rintro w1 hb1 hc1 hf1 hz1;(try simp at hz1))|skip)<;>(refine hK.out _ _ bel ?_;clear hK K))))
         (all_goals try simp only [Act.put,lsi,lsz,lss]);all_goals(refine qad ?_)
         go_wp2
         · go_ret
           exact⟨qae (by rw [HF.out,qud (i:=k) (k:=q) (by rw [hl.1];exact hlt) (by rw [hl'.1];exact hqt) (by assumption)];rfl),bel⟩
         · have hf:qd4 ⟨(pt l k).x,(pt l k).y⟩ ⟨(nx l k).x,(nx l k).y⟩ ⟨(pt l' q).x,(pt l' q).y⟩ ⟨(nx l' q).x,(nx l' q).y⟩=false:=by first|assumption|(simpa using (by assumption:¬ qd4 ⟨(pt l k).x,(pt l k).y⟩ ⟨(nx l k).x,(nx l k).y⟩ ⟨(pt l' q).x,(pt l' q).y⟩ ⟨(nx l' q).x,(nx l' q).y⟩=true))
           have HN:=hdQ hf;clear hf
           go_roundw
           case rel=>exact ⟨q+1,by omega,by go_num,fun j hj=>by
            by_cases e:j=q
            · subst e;exact HN.out
            · exact hnq.out j oQ,blkA,bel⟩
           case measure=>simp [intOf];omega
       · go_wp2
         go_roundw
         case rel=>exact ⟨k+1,by omega,by go_num,fun j hj p hp=>by
          by_cases e:j=k
          · subst e;exact hnq.out p oQ
          · exact hno.out j oQ p hp,bel⟩
         case measure=>simp [intOf];omega
    · have HG:Hid (qiz l l' =(rhas l (pt l' 0)||rhas l' (pt l 0))):=by
       unfold Hid
       rw [HF.out,que (fun i hi p hp=>hno.out i (by rw [hl.1] at hi;omega) p (by rw [<-hl'.1];exact hp))]
       rfl
      obtain⟨b,off,rfl,hab,c0,c1⟩:=(hl.below (hb.mono hB)).at_ (k:=0) oQ
      obtain⟨b',off',rfl,hab',d0,d1⟩:=(hl'.below (hb.mono hB)).at_ (k:=0) oQ
      simp only [Nat.zero_mul,Nat.add_zero] at c0 c1 d0 d1;have hbs:=hb.size;have hbw:b<wr.heap.size:=oQ
      have hbw' :b' <wr.heap.size:=oQ
      have hn1:0<n:=oQ
      have hn1' :0<n' :=oQ
      go_wp2_with (first|(go_at_call 62;have _hz:=hza;refine(qjc B n' c' _ _ _ l' _ (hl'.tr bel hB) (bsz w hB) oQ).monoR ?_;rintro w1 hb1 hc1 hf1 hz1;(try simp at hz1))|(go_at_call 62;refine(qjc B n c _ _ _ l _ (hl.tr bel hB) (bsz w hB) oQ).monoR ?_;rintro wa hba hca hfa hza;(try simp at hza)))
      all_goals go_ret
      all_goals exact⟨qae (by rw [HG.out];first|(rw [show rhas l (pt l' 0)=true by assumption];rfl)|(rw [show rhas l (pt l' 0)=false from Bool.eq_false_iff.2 (by assumption)];rfl)),bel⟩
theorem qk1 {k:Int} {l:List Pt} (h:ckOb ⟨k,l⟩=0):(k=1\/k=2->1<=l.length)/\(k=3->2<=l.length)/\l.length<=64/\(qdj ⟨k,l⟩=false->qbn l=0):=by
 by_cases k1:k=1
 · subst k1
   have h1:l.length=1:=by
    by_cases e:l.length=1
    · exact e
    · simp [ckOb,e] at h
   exact⟨fun _=>by omega,fun h=>by omega,by omega,fun hb=>by simp [qdj] at hb⟩
 by_cases k2:k=2
 · subst k2
   have h1:l.length=1:=by
    by_cases e:l.length=1
    · exact e
    · simp [ckOb,e] at h
   exact⟨fun _=>by omega,fun h=>by omega,by omega,fun hb=>by simp [qdj] at hb⟩
 by_cases k3:k=3
 · subst k3
   have h1:l.length=2:=by
    by_cases e:l.length=2
    · exact e
    · simp [ckOb,e] at h
   exact⟨fun _=>by omega,fun h=>by omega,by omega,fun hb=>by simp [qdj] at hb⟩
 by_cases k4:k=4
 · subst k4
   have h4:qbn l=0:=by simpa [ckOb] using h
   have:=qi5 h4;exact⟨fun _=>by omega,fun h=>by omega,by omega,fun _=>h4⟩
 · simp [ckOb,k1,k2,k3,k4] at h
theorem qm7 (B n c n' c' :Nat) (k k' :Int) (A A' :Option Addr) (l l' :List Pt) (w:World) (hl:qal w B A n l) (hl' :qal w B A' n' l') (hB:B<=w.heap.size) (hck:ckOb ⟨k,l⟩=0) (hck' :ckOb ⟨k',l'⟩=0):
 C9 82 #[obV k A n c,obV k' A' n' c'] w (Ret w (.bool (qeq ⟨k,l⟩ ⟨k',l'⟩))):=by
 obtain⟨p1,p2,p3,p4⟩:=qk1 hck;obtain⟨q1,q2,q3,q4⟩:=qk1 hck';rw [hl.1] at p1 p2 p3;rw [hl'.1] at q1 q2 q3
 cases hx:qdj ⟨k,l⟩<;>cases hy:qdj ⟨k',l'⟩
 · have HX:=hdQ hx
   have HY:=hdQ hy;have HF:Hid (qeq ⟨k,l⟩ ⟨k',l'⟩=qiz l l'):=by simp [Hid,qeq,hx,hy]
   have P4:=hdQ (p4 hx);have Q4:=hdQ (q4 hy);clear hx hy p4 q4
   go_enter Tryz.func82,Tryz.ntmps82
   go_wp2_with (first|(go_at_call 60;have _hz:=hza;refine(qdl B n' c' k' A' l' _ (hl'.tr bel hB) (bsz w hB) (by assumption) (by assumption)).mono ?_;rw [HY.out];rintro e w1 ⟨rfl,hb1⟩;obtain⟨hc1,hf1,hz1⟩:=bc3 hb1;(try simp at hz1);obtain⟨hy0,hy1⟩:=ol2 w w1)|(go_at_call 60;refine(qdl B n c k A l _ (hl.tr bel hB) (bsz w hB) (by assumption) (by assumption)).mono ?_;rw [HX.out];rintro e wa ⟨rfl,hba⟩;obtain⟨hca,hfa,hza⟩:=bc3 hba;(try simp at hza);obtain⟨hy0,hy1⟩:=ol2 w wa)|(go_at_call 123;refine(qyp B n c n' c' A A' l l' _ (hl.tr bel hB) (hl'.tr bel hB) (bsz w hB) P4.out Q4.out).monoR ?_;rintro w1 hb1 hc1 hf1 hz1;(try simp at hz1);obtain⟨hy0,hy1⟩:=ol2 w w1))
   go_ret;exact⟨qae HF.out.symm,bel⟩
 · have HX:=hdQ hx
   have HY:=hdQ hy;have HF:Hid (qeq ⟨k,l⟩ ⟨k',l'⟩=cutS l (qbz ⟨k',l'⟩)):=by simp [Hid,qeq,hx,hy]
   clear hx hy p4 q4
   go_enter Tryz.func82,Tryz.ntmps82
   go_wp2_with (first|(go_at_call 60;have _hz:=hza;refine(qdl B n' c' k' A' l' _ (hl'.tr bel hB) (bsz w hB) (by assumption) (by assumption)).mono ?_;rw [HY.out];rintro e w1 ⟨rfl,hb1⟩;obtain⟨hc1,hf1,hz1⟩:=bc3 hb1;(try simp at hz1);have hy0:w.heap.size<w1.heap.size:=oQ;have hy1:w.heap.size+1<w1.heap.size:=oQ;have hya:wa.heap.size<w1.heap.size:=oQ)|(go_at_call 60;refine(qdl B n c k A l _ (hl.tr bel hB) (bsz w hB) (by assumption) (by assumption)).mono ?_;rw [HX.out];rintro e wa ⟨rfl,hba⟩;obtain⟨hca,hfa,hza⟩:=bc3 hba;(try simp at hza);obtain⟨hy0,hy1⟩:=ol2 w wa)|(go_at_call 122;refine(qxl B n c (qbz ⟨k',l'⟩) A l _ (hl.tr bel hB) (bsz w hB) oQ).monoR ?_;rintro w1 hb1 hc1 hf1 hz1;(try simp at hz1);obtain⟨hy0,hy1⟩:=ol2 w w1))
   go_ret;exact⟨qae HF.out.symm,bel⟩
 · have HX:=hdQ hx
   have HY:=hdQ hy;have HF:Hid (qeq ⟨k,l⟩ ⟨k',l'⟩=cutS l' (qbz ⟨k,l⟩)):=by simp [Hid,qeq,hx,hy]
   clear hx hy p4 q4
   go_enter Tryz.func82,Tryz.ntmps82
   go_wp2_with (first|(go_at_call 60;have _hz:=hza;refine(qdl B n' c' k' A' l' _ (hl'.tr bel hB) (bsz w hB) (by assumption) (by assumption)).mono ?_;rw [HY.out];rintro e w1 ⟨rfl,hb1⟩;obtain⟨hc1,hf1,hz1⟩:=bc3 hb1;(try simp at hz1);have hy0:w.heap.size<w1.heap.size:=oQ;have hy1:w.heap.size+1<w1.heap.size:=oQ;have hya:wa.heap.size<w1.heap.size:=oQ)|(go_at_call 60;refine(qdl B n c k A l _ (hl.tr bel hB) (bsz w hB) (by assumption) (by assumption)).mono ?_;rw [HX.out];rintro e wa ⟨rfl,hba⟩;obtain⟨hca,hfa,hza⟩:=bc3 hba;(try simp at hza);obtain⟨hy0,hy1⟩:=ol2 w wa)|(go_at_call 122;refine(qxl B n' c' (qbz ⟨k,l⟩) A' l' _ (hl'.tr bel hB) (bsz w hB) oQ).monoR ?_;rintro w1 hb1 hc1 hf1 hz1;(try simp at hz1);obtain⟨hy0,hy1⟩:=ol2 w w1))
   go_ret;exact⟨qae HF.out.symm,bel⟩
 · have HX:=hdQ hx
   have HY:=hdQ hy;have HF:Hid (qeq ⟨k,l⟩ ⟨k',l'⟩=qde (qbz ⟨k,l⟩) (qbz ⟨k',l'⟩)):=by simp [Hid,qeq,hx,hy]
   clear hx hy p4 q4
   go_enter Tryz.func82,Tryz.ntmps82
   go_wp2_with (first|(go_at_call 60;have _hz:=hza;refine(qdl B n' c' k' A' l' _ (hl'.tr bel hB) (bsz w hB) (by assumption) (by assumption)).mono ?_;rw [HY.out];rintro e w1 ⟨rfl,hb1⟩;obtain⟨hc1,hf1,hz1⟩:=bc3 hb1;(try simp at hz1);have hy0:w.heap.size<w1.heap.size:=oQ;have hy1:w.heap.size+1<w1.heap.size:=oQ;have hya:wa.heap.size<w1.heap.size:=oQ)|(go_at_call 60;refine(qdl B n c k A l _ (hl.tr bel hB) (bsz w hB) (by assumption) (by assumption)).mono ?_;rw [HX.out];rintro e wa ⟨rfl,hba⟩;obtain⟨hca,hfa,hza⟩:=bc3 hba;(try simp at hza);obtain⟨hy0,hy1⟩:=ol2 w wa)|(go_at_call 121;refine(qkk _ _ _ _ _ _ _ _ _).monoR ?_;rintro w1 hb1 hc1 hf1 hz1;(try simp at hz1);obtain⟨hy0,hy1⟩:=ol2 w w1))
   go_ret;exact⟨qae HF.out.symm,bel⟩
theorem qpk (B n c:Nat) (k:Int) (A:Option Addr) (l:List Pt) (w:World) (hl:qal w B A n l) (hB:B<=w.heap.size) (hck:ckOb ⟨k,l⟩=0):
 C9 84 #[obV k A n c] w (Ret w (bxW (qa2 ⟨k,l⟩))):=by
 obtain⟨p1,p2,p3,p4⟩:=qk1 hck;rw [hl.1] at p1 p2 p3
 cases hx:qdj ⟨k,l⟩
 · have HX:=hdQ hx
   have HF:Hid (qa2 ⟨k,l⟩=qar l):=by simp [Hid,qa2,hx]
   have P4:=hdQ (p4 hx);clear hx p4
   go_enter Tryz.func84,Tryz.ntmps84
   go_wp2_with (first|(go_at_call 60;refine(qdl B n c k A l _ (hl.tr bel hB) (bsz w hB) (by assumption) (by assumption)).mono ?_;rw [HX.out];rintro e wa ⟨rfl,hba⟩;obtain⟨hca,hfa,hza⟩:=bc3 hba;(try simp at hza);obtain⟨hy0,hy1⟩:=ol2 w wa)|(go_at_call 125;refine(qfd B n c A l _ (hl.tr bel hB) (bsz w hB) P4.out).monoR ?_;rintro w1 hb1 hc1 hf1 hz1;(try simp at hz1);have hy2:w.heap.size<w1.heap.size:=oQ;have hy3:w.heap.size+1<w1.heap.size:=oQ;have hya:wa.heap.size<w1.heap.size:=oQ))
   have hQ:Blk w1 (w.heap.size+1) 48 #[.int .i64 0,.int .i64 0,.int .i64 0,.int .i64 0]:=blkA;have HR:=(Blk.set_ (Blk.set_ (Blk.set_ (Blk.set_ (Blk.far (Blk.far (Blk.far (Blk.far hQ (p:=⟨wa.heap.size,0,none⟩) (by simp;omega) (.int .i64 (qar l).lo.x)) (p:=⟨wa.heap.size,1,none⟩) (by simp;omega) (.int .i64 (qar l).lo.y)) (p:=⟨wa.heap.size,2,none⟩) (by simp;omega) (.int .i64 (qar l).hi.x)) (p:=⟨wa.heap.size,3,none⟩) (by simp;omega) (.int .i64 (qar l).hi.y)) 0 (.int .i64 (qar l).lo.x)) 1 (.int .i64 (qar l).lo.y)) 2 (.int .i64 (qar l).hi.x)) 3 (.int .i64 (qar l).hi.y))
   have r0:=HR.cell 0;have r1:=HR.cell 1;have r2:=HR.cell 2;have r3:=HR.cell 3
   simp at r0 r1 r2 r3
   exact bodyPost_ret (v:=bxW (qar l)) (by simp [results,Tryz.results84,go_sem,r0,r1,r2,r3]) rfl ⟨by rw [HF.out],bel⟩
 · have HX:=hdQ hx
   have HF:Hid (qa2 ⟨k,l⟩=qbz ⟨k,l⟩):=by simp [Hid,qa2,hx]
   clear hx p4
   go_enter Tryz.func84,Tryz.ntmps84
   go_wp2_with (first|(go_at_call 60;refine(qdl B n c k A l _ (hl.tr bel hB) (bsz w hB) (by assumption) (by assumption)).mono ?_;rw [HX.out];rintro e wa ⟨rfl,hba⟩;obtain⟨hca,hfa,hza⟩:=bc3 hba;(try simp at hza);obtain⟨hy0,hy1⟩:=ol2 w wa))
   have hQ:Blk wa (w.heap.size+1) 48 #[.int .i64 0,.int .i64 0,.int .i64 0,.int .i64 0]:=blkA;have HR:=Blk.alloc (Blk.set_ (Blk.set_ (Blk.set_ (Blk.set_ hQ 0 (.int .i64 (qbz ⟨k,l⟩).lo.x)) 1 (.int .i64 (qbz ⟨k,l⟩).lo.y)) 2 (.int .i64 (qbz ⟨k,l⟩).hi.x)) 3 (.int .i64 (qbz ⟨k,l⟩).hi.y)) (.cells #[.int .i64 (qbz ⟨k,l⟩).lo.x,.int .i64 (qbz ⟨k,l⟩).lo.y,.int .i64 (qbz ⟨k,l⟩).hi.x,.int .i64 (qbz ⟨k,l⟩).hi.y] 48);have r0:=HR.cell 0;have r1:=HR.cell 1;have r2:=HR.cell 2;have r3:=HR.cell 3
   simp at r0 r1 r2 r3
   exact bodyPost_ret (v:=bxW (qbz ⟨k,l⟩)) (by simp [results,Tryz.results84,go_sem,r0,r1,r2,r3]) rfl ⟨by rw [HF.out],bel⟩
theorem qcn (B n c:Nat) (k:Int) (A:Option Addr) (l:List Pt) (w:World) (hl:qal w B A n l) (hB:B<=w.heap.size) (hn:n<=1000000) (h:ckOb ⟨k,l⟩=0):
 C9 59 #[obV k A n c] w (Ret w .nilIface):=by
 refine(qf8 B n c k A l w hl hB hn).mono ?_;rintro e w' ⟨v,he,hv,hb⟩;rw [h] at hv;exact⟨by rw [he,hv.zero],hb⟩
theorem qf7 (B n c:Nat) (k:Int) (A:Option Addr) (l:List Pt) (w:World) (hl:qal w B A n l) (hB:B<=w.heap.size) (hn:n<=1000000) (h:ckOb ⟨k,l⟩≠0):
 C9 59 #[obV k A n c] w fun e w' =>∃t u,e=.returned (.iface t u)/\Below w.heap.size w w' :=by
 refine(qf8 B n c k A l w hl hB hn).mono ?_;rintro e w' ⟨v,he,hv,hb⟩;obtain⟨t,u,rfl⟩:=hv.succ h;exact⟨t,u,he,hb⟩
theorem qje (B n c:Nat) (k:Int) (b:Bx) (A:Option Addr) (l:List Pt) (w:World) (hl:qal w B A n l) (hB:B<=w.heap.size) (hn:n<=1000000) (h:ckQu ⟨k,b,l⟩=0):
 C9 52 #[quV k b A n c] w (Ret w .nilIface):=by
 refine(qkc B n c k b A l w hl hB hn).mono ?_;rintro e w' ⟨v,he,hv,hb⟩;rw [h] at hv;exact⟨by rw [he,hv.zero],hb⟩
theorem qvv (B n c:Nat) (k:Int) (b:Bx) (A:Option Addr) (l:List Pt) (w:World) (hl:qal w B A n l) (hB:B<=w.heap.size) (hn:n<=1000000) (h:ckQu ⟨k,b,l⟩≠0):
 C9 52 #[quV k b A n c] w fun e w' =>∃t u,e=.returned (.iface t u)/\Below w.heap.size w w' :=by
 refine(qkc B n c k b A l w hl hB hn).mono ?_;rintro e w' ⟨v,he,hv,hb⟩;obtain⟨t,u,rfl⟩:=hv.succ h;exact⟨t,u,he,hb⟩
theorem qy0 {w:World} {B B' n:Nat} {A:Option Addr} {l:List Pt} (h:qal w B A n l) (hB:B<=B'):qal w B' A n l:=
 ⟨h.1,fun hn=>by
  obtain⟨b,off,e,hb,hc⟩:=h.2 hn
  exact⟨b,off,e,by omega,hc⟩⟩
theorem pts1 {w:World} {g:Nat} {p:Pt} {t:TypeId} (h:Blk w g t #[.int .i64 p.x,.int .i64 p.y]):qal w w.heap.size (some ⟨g,0,none⟩) 1 [p]:=
 ⟨rfl,fun _=>⟨g,0,rfl,h.lt,fun k q hq=>by
  match k,hq with
  | 0,hq=>
    simp at hq
    subst hq
    exact⟨by rw [h.cell];rfl,by rw [h.cell];rfl⟩⟩⟩
theorem pts2 {w:World} {g:Nat} {p q:Pt} {t:TypeId} (h:Blk w g t #[.int .i64 p.x,.int .i64 p.y,.int .i64 q.x,.int .i64 q.y]):qal w w.heap.size (some ⟨g,0,none⟩) 2 [p,q]:=
 ⟨rfl,fun _=>⟨g,0,rfl,h.lt,fun k r hr=>by
  match k,hr with
  | 0,hr=>
    simp at hr
    subst hr;exact⟨by rw [h.cell];rfl,by rw [h.cell];rfl⟩
  | 1,hr=>
    simp at hr
    subst hr
    exact⟨by rw [h.cell];rfl,by rw [h.cell];rfl⟩⟩⟩
theorem qon (B n c n' c' :Nat) (k k' :Int) (bq:Bx) (A A' :Option Addr) (l l' :List Pt) (w:World) (hl:qal w B A n l) (hl' :qal w B A' n' l') (hB:B<=w.heap.size) (hn:n<=1000000) (hn' :n' <=1000000):
 C9 56 #[obV k A n c,quV k' bq A' n' c'] w (Ret w (.bool (qer ⟨k,l⟩ ⟨k',bq,l'⟩))):=by
 by_cases ho:ckOb ⟨k,l⟩=0
 · by_cases hq:ckQu ⟨k',bq,l'⟩=0
   · have HO:=hdQ ho
     have HQ:=hdQ hq;have HF:Hid (qer ⟨k,l⟩ ⟨k',bq,l'⟩=(if k' =1 then qeq ⟨k,l⟩ ⟨3,[bq.lo,bq.hi]⟩ else if k' =2 then qk7 (qa2 ⟨k,l⟩) bq else if k' =3 then qeq ⟨k,l⟩ ⟨1,[bq.lo]⟩ else qeq ⟨k,l⟩ ⟨4,l'⟩)):=by unfold Hid qer;rw [if_pos ⟨ho,hq⟩]
     clear ho
     by_cases k1:k' =1
     · subst k1
       have HG:Hid (ckOb ⟨3,[bq.lo,bq.hi]⟩=0):=by simpa [Hid,ckOb,ckQu,pt] using hq
       clear hq
       go_enter Tryz.func56,Tryz.ntmps56
       go_wp2_with (first|(go_at_call 59;refine(qcn B n c k A l _ (hl.tr bel hB) (bsz w hB) hn HO.out).monoR ?_;rintro w1 hb1 hc1 hf1 hz1;(try simp at hz1);obtain⟨hy0,hy1⟩:=ol2 w w1)|(go_at_call 52;refine(qje B n' c' 1 bq A' l' _ (hl'.tr bel hB) (bsz w hB) hn' HQ.out).monoR ?_;rintro w1 hb1 hc1 hf1 hz1;(try simp at hz1);obtain⟨hy0,hy1⟩:=ol2 w w1)|(go_at_call 82;go_must (refine(qm7 (w1.heap.size+1) n c 2 2 k 3 A _ l [bq.lo,bq.hi] _ (qy0 (hl.tr bel hB) (by have:=hb1.size;simp;omega)) (qy0 (pts2 blkA) sI) sI HO.out HG.out).monoR ?_;rintro w1 hb1 hc1 hf1 hz1;(try simp at hz1);obtain⟨hy0,hy1⟩:=ol2 w w1)))
       go_ret;exact⟨qae (by rw [HF.out];rfl),bel⟩
     by_cases k2:k' =2
     · subst k2
       clear hq
       go_enter Tryz.func56,Tryz.ntmps56
       go_wp2_with (first|(go_at_call 59;refine(qcn B n c k A l _ (hl.tr bel hB) (bsz w hB) hn HO.out).monoR ?_;rintro w1 hb1 hc1 hf1 hz1;(try simp at hz1);obtain⟨hy0,hy1⟩:=ol2 w w1)|(go_at_call 52;refine(qje B n' c' 2 bq A' l' _ (hl'.tr bel hB) (bsz w hB) hn' HQ.out).monoR ?_;rintro w1 hb1 hc1 hf1 hz1;(try simp at hz1);obtain⟨hy0,hy1⟩:=ol2 w w1))
       refine qah [0,2,3,1,4,5] kr kr pq ?_
       simp only [zdy,zey,ldz,lds,bare,qak,lcz,lcs,zay]
       repeat' ((try simp only [Act.put,lsi,lsz,lss]);first|(refine lqx ?_)|(refine qab qaa rfl (fun K hK=> ?_);go_simp;((first|(go_at_call 84;refine(qpk B n c k A l _ (hl.tr bel hB) (bsz w hB) HO.out).monoR ?_;rintro w1 hb1 hc1 hf1 hz1;(try simp at hz1);obtain⟨hy0,hy1⟩:=ol2 w w1)|(go_at_call 83;refine(qt1 _ _ _ _ _ _ _ _ _).monoR ?_;rintro w1 hb1 hc1 hf1 hz1;(try simp at hz1);obtain⟨hy0,hy1⟩:=ol2 w w1)|skip)<;>(refine hK.out _ _ bel ?_;clear hK K))))
       (all_goals try simp only [Act.put,lsi,lsz,lss]);all_goals(refine qad ?_)
       go_wp2;go_ret;exact⟨qae (by rw [HF.out];rfl),bel⟩
     by_cases k3:k' =3
     · subst k3
       have HG:Hid (ckOb ⟨1,[bq.lo]⟩=0):=by
        have h:okPt bq.lo=true:=by
         cases h:okPt bq.lo
         · simp [ckQu,h] at hq
         · rfl
        have h2:qa4 ⟨bq.lo,bq.lo⟩=0:=qst h
        simpa [Hid,ckOb,pt] using h2
       clear hq
       go_enter Tryz.func56,Tryz.ntmps56
       go_wp2_with (first|(go_at_call 59;refine(qcn B n c k A l _ (hl.tr bel hB) (bsz w hB) hn HO.out).monoR ?_;rintro w1 hb1 hc1 hf1 hz1;(try simp at hz1);obtain⟨hy0,hy1⟩:=ol2 w w1)|(go_at_call 52;refine(qje B n' c' 3 bq A' l' _ (hl'.tr bel hB) (bsz w hB) hn' HQ.out).monoR ?_;rintro w1 hb1 hc1 hf1 hz1;(try simp at hz1);obtain⟨hy0,hy1⟩:=ol2 w w1)|(go_at_call 82;go_must (refine(qm7 (w1.heap.size+1) n c 1 1 k 1 A _ l [bq.lo] _ (qy0 (hl.tr bel hB) (by have:=hb1.size;simp;omega)) (qy0 (pts1 blkA) sI) sI HO.out HG.out).monoR ?_;rintro w1 hb1 hc1 hf1 hz1;(try simp at hz1);obtain⟨hy0,hy1⟩:=ol2 w w1)))
       go_ret;exact⟨qae (by rw [HF.out];rfl),bel⟩
     by_cases k4:k' =4
     · subst k4
       have HG:Hid (ckOb ⟨4,l'⟩=0):=by simpa [Hid,ckOb,ckQu] using hq
       clear hq
       go_enter Tryz.func56,Tryz.ntmps56
       go_wp2_with (first|(go_at_call 59;refine(qcn B n c k A l _ (hl.tr bel hB) (bsz w hB) hn HO.out).monoR ?_;rintro w1 hb1 hc1 hf1 hz1;(try simp at hz1);obtain⟨hy0,hy1⟩:=ol2 w w1)|(go_at_call 52;refine(qje B n' c' 4 bq A' l' _ (hl'.tr bel hB) (bsz w hB) hn' HQ.out).monoR ?_;rintro w1 hb1 hc1 hf1 hz1;(try simp at hz1);obtain⟨hy0,hy1⟩:=ol2 w w1)|(go_at_call 82;go_must (refine(qm7 B n c n' c' k 4 A A' l l' _ (hl.tr bel hB) (hl'.tr bel hB) (bsz w hB) HO.out HG.out).monoR ?_;rintro w1 hb1 hc1 hf1 hz1;(try simp at hz1);obtain⟨hy0,hy1⟩:=ol2 w w1)))
       go_ret;exact⟨qae (by rw [HF.out];rfl),bel⟩
     · exfalso
       simp [ckQu,k1,k2,k3,k4] at hq
   · have HO:=hdQ ho
     have HQ:=hdQ hq;have HF:Hid (qer ⟨k,l⟩ ⟨k',bq,l'⟩=false):=by unfold Hid qer;rw [if_neg (fun h=>hq h.2)]
     clear ho hq
     go_enter Tryz.func56,Tryz.ntmps56
     go_wp2_with (first|(go_at_call 59;refine(qcn B n c k A l _ (hl.tr bel hB) (bsz w hB) hn HO.out).monoR ?_;rintro w1 hb1 hc1 hf1 hz1;(try simp at hz1);obtain⟨hy0,hy1⟩:=ol2 w w1)|(go_at_call 52;refine(qvv B n' c' k' bq A' l' _ (hl'.tr bel hB) (bsz w hB) hn' HQ.out).mono ?_;rintro e w1 ⟨t1,u1,rfl,hb1⟩;obtain⟨hc1,hf1,hz1⟩:=bc3 hb1;(try simp at hz1)))
     go_ret;exact⟨qae HF.out.symm,bel⟩
 · have HO:=hdQ ho
   have HF:Hid (qer ⟨k,l⟩ ⟨k',bq,l'⟩=false):=by unfold Hid qer;rw [if_neg (fun h=>ho h.1)]
   clear ho
   go_enter Tryz.func56,Tryz.ntmps56
   go_wp2_with (first|(go_at_call 59;refine(qf7 B n c k A l _ (hl.tr bel hB) (bsz w hB) hn HO.out).mono ?_;rintro e w1 ⟨t1,u1,rfl,hb1⟩;obtain⟨hc1,hf1,hz1⟩:=bc3 hb1;(try simp at hz1)))
   go_ret;exact⟨qae HF.out.symm,bel⟩
end Go.Proofs.YtfnhnjbkkggbeaaGreat

/-Contracts of package rel: box, verts, interval.-/
import Derived.Test.YteodamnfgcnmmaaGreatRRing
set_option linter.unusedVariables false
set_option linter.unusedSimpArgs false
set_option maxHeartbeats 2000000
set_option maxRecDepth 20000
namespace Go.Proofs.YteodamnfgcnmmaaGreat
open Go.RowKit Pg
abbrev obV (k:Int) (A:Option Addr) (n c:Nat):Value:=.agg #[.int .i64 k,.slice A n c]
abbrev bxW (b:Bx):Value:=bxV b.lo.x b.lo.y b.hi.x b.hi.y
theorem qdt (B n c:Nat) (k:Int) (A:Option Addr) (l:List Pt) (w:World) (hl:qas w B A n l) (hB:B<=w.heap.size) (h1:k=1\/k=2->1<=n) (h2:k=3->2<=n):
 C9 76 #[obV k A n c] w (Ret w (.tuple #[bxW (qbm ⟨k,l⟩),.bool (qcn ⟨k,l⟩)])):=by
 by_cases k1:k=1
 · subst k1
   have hn:=h1 (.inl rfl);obtain⟨b,off,rfl,hab,c0,c1⟩:=hl.at_ (k:=0) hn;have hn' :0<n:=oQ
   have hbw:b<w.heap.size:=oQ
   have hbw1:b<w.heap.size+1:=oQ
   have hbw2:b<w.heap.size+1+1:=oQ
   simp only [Nat.zero_mul,Nat.add_zero] at c0 c1;have HR:Hid (qbm ⟨1,l⟩=⟨pt l 0,pt l 0⟩):=by simp [Hid,qbm]
   go_enter Tryz.func76,Tryz.ntmps76
   go_wp2_with fail;refine qa8 (w.heap.size+1) [0,1,2,3,4,5,6,7,8,9,10] kr kr pq ?_
   simp only [zdy,zey,ldz,lds,bare,qam,lcz,lcs,zay]
   repeat' ((try simp only [Act.put,lsi,lsz,lss]);first|(refine lqy ?_)|(refine qac qaa rfl (fun K hK=> ?_);go_simp;((first|fail|skip)<;>(refine hK.out _ _ (by first|with_reducible exact qbp|with_reducible exact Below.drew qbp|exact bel) ?_;clear hK K))))
   (all_goals try simp only [Act.put,lsi,lsz,lss]);all_goals(refine qaf ?_)
   go_wp2;exact bodyPost_ret (v:=.tuple #[bxW (qbm ⟨1,l⟩),.bool (qcn ⟨1,l⟩)]) (by simp [results,Tryz.results76,go_sem,HR.out,qcn]) rfl ⟨rfl,bel⟩
 by_cases k2:k=2
 · subst k2
   have hn:=h1 (.inr rfl);obtain⟨b,off,rfl,hab,c0,c1⟩:=hl.at_ (k:=0) hn;have hn' :0<n:=oQ
   have hbw:b<w.heap.size:=oQ
   have hbw1:b<w.heap.size+1:=oQ
   have hbw2:b<w.heap.size+1+1:=oQ
   simp only [Nat.zero_mul,Nat.add_zero] at c0 c1;have HR:Hid (qbm ⟨2,l⟩=⟨⟨(pt l 0).x,0⟩,⟨(pt l 0).y,0⟩⟩):=by simp [Hid,qbm]
   go_enter Tryz.func76,Tryz.ntmps76
   go_wp2_with fail;refine qa8 (w.heap.size+1) [0,1,2,3,4,5,6,7,8,9,10,11,12,13,14] kr kr pq ?_
   simp only [zdy,zey,ldz,lds,bare,qam,lcz,lcs,zay]
   repeat' ((try simp only [Act.put,lsi,lsz,lss]);first|(refine lqy ?_)|(refine qac qaa rfl (fun K hK=> ?_);go_simp;((first|fail|skip)<;>(refine hK.out _ _ (by first|with_reducible exact qbp|with_reducible exact Below.drew qbp|exact bel) ?_;clear hK K))))
   (all_goals try simp only [Act.put,lsi,lsz,lss]);all_goals(refine qaf ?_)
   go_wp2;exact bodyPost_ret (v:=.tuple #[bxW (qbm ⟨2,l⟩),.bool (qcn ⟨2,l⟩)]) (by simp [results,Tryz.results76,go_sem,HR.out,qcn]) rfl ⟨rfl,bel⟩
 by_cases k3:k=3
 · subst k3
   have hn:=h2 rfl;obtain⟨b,off,rfl,hab,c0,c1⟩:=hl.at_ (k:=0) oQ
   obtain⟨b',off',he,hab',c2,c3⟩:=hl.at_ (k:=1) oQ
   injection he with he
   injection he with he1 he2
   subst he1 he2;have hn' :0<n:=oQ
   have hn2:1<n:=oQ
   have hn3:(1:Int)<n:=oQ
   have hbw:b<w.heap.size:=oQ
   have hbw1:b<w.heap.size+1:=oQ
   have hbw2:b<w.heap.size+1+1:=oQ
   simp only [Nat.zero_mul,Nat.add_zero,Nat.one_mul] at c0 c1 c2 c3;have HR:Hid (qbm ⟨3,l⟩=⟨pt l 0,pt l 1⟩):=by simp [Hid,qbm]
   go_enter Tryz.func76,Tryz.ntmps76
   go_wp2_with fail;refine qa8 (w.heap.size+1) [0,1,2,3,4,5,6,7,8,9,10] kr kr pq ?_
   simp only [zdy,zey,ldz,lds,bare,qam,lcz,lcs,zay]
   repeat' ((try simp only [Act.put,lsi,lsz,lss]);first|(refine lqy ?_)|(refine qac qaa rfl (fun K hK=> ?_);go_simp;((first|fail|skip)<;>(refine hK.out _ _ (by first|with_reducible exact qbp|with_reducible exact Below.drew qbp|exact bel) ?_;clear hK K))))
   (all_goals try simp only [Act.put,lsi,lsz,lss]);all_goals(refine qaf ?_)
   go_wp2;exact bodyPost_ret (v:=.tuple #[bxW (qbm ⟨3,l⟩),.bool (qcn ⟨3,l⟩)]) (by simp [results,Tryz.results76,go_sem,HR.out,qcn]) rfl ⟨rfl,bel⟩
 · have HR:Hid (qbm ⟨k,l⟩=qbz):=by simp [Hid,qbm,k1,k2,k3]
   have HI:Hid (qcn ⟨k,l⟩=false):=by simp [Hid,qcn,k1,k2,k3]
   go_enter Tryz.func76,Tryz.ntmps76
   go_wp2;exact bodyPost_ret (v:=.tuple #[bxW (qbm ⟨k,l⟩),.bool (qcn ⟨k,l⟩)]) (by simp [results,Tryz.results76,go_sem,HR.out,HI.out,qbz]) rfl ⟨rfl,bel⟩
theorem qej (k:Int) (w:World):C9 79 #[.int .i64 k] w (Ret w (.int .i64 (if k=3 then 2 else 1))):=by
 by_cases h:k=3
 all_goals
  go_enter Tryz.func79,Tryz.ntmps79
  go_wp2;go_ret;exact⟨rfl,bel⟩
theorem qmf (x y:Int) (w:World):C9 80 #[ptV x y] w (Ret w (errV (qjm ⟨x,y⟩))):=by
 cases h:okPt ⟨x,y⟩
 · have HE:Hid (errV (if okPt ⟨x,y⟩=true then 0 else 2)=.iface 97 (.int .i64 2)):=by unfold Hid;rw [h];rfl
   have HF:Hid (qjm ⟨x,y⟩=2):=by simp [Hid,qjm,h]
   clear h
   go_enter Tryz.func80,Tryz.ntmps80
   go_wp2_with (go_at_call 97;refine(qbi _ _ _).mono ?_;rw [HE.out];rintro e w1 ⟨rfl,hb1⟩;obtain⟨hc1,hf1,hz1⟩:=bc3 hb1;(try simp at hz1);have hy0:=ol1 w w1)
   go_ret;exact⟨by rw [HF.out];rfl,bel⟩
 · have HE:Hid (errV (if okPt ⟨x,y⟩=true then 0 else 2)=.nilIface):=by unfold Hid;rw [h];rfl
   have HF:Hid (qjm ⟨x,y⟩=if y<x then 1 else 0):=by simp [Hid,qjm,h]
   clear h
   by_cases hlt:y<x
   all_goals
    go_enter Tryz.func80,Tryz.ntmps80
    go_wp2_with (go_at_call 97;refine(qbi _ _ _).mono ?_;rw [HE.out];rintro e w1 ⟨rfl,hb1⟩;obtain⟨hc1,hf1,hz1⟩:=bc3 hb1;(try simp at hz1);have hy0:=ol1 w w1)
    go_ret;exact⟨by rw [HF.out];first|(rw [if_pos oQ];rfl)|(rw [if_neg oQ];rfl),bel⟩
def ErrC (w:World) (v:Value) (k:Nat):Prop:=v=errV k\/ErrR w v k
def RetC (w:World) (k:Nat):Ending->World->Prop:=fun e w' =>∃v,e=.returned v/\ErrC w' v k/\Below w.heap.size w w'
def ErrW (w:World) (v:Value) (k:Nat) (s:ByteArray) (id:Int):Prop:=(k=0/\v=.nilIface)\/(k≠0/\∃(g:Nat) (inner:Value),v=qml g/\Blk w g 130 #[.string s,.int .i64 id,inner]/\ErrC w inner k)
def RetW (w:World) (k:Nat) (s:ByteArray) (id:Int):Ending->World->Prop:=fun e w' =>∃v,e=.returned v/\ErrW w' v k s id/\Below w.heap.size w w'
theorem ErrR.alloc {w:World} {v:Value} {k:Nat} (h:ErrR w v k) (o:Obj):ErrR (w.alloc o) v k:=by
 rcases h with h|⟨h0,g,s,id,e,hb⟩
 · exact .inl h
 · exact .inr ⟨h0,g,s,id,e,hb.alloc o⟩
theorem ErrC.alloc {w:World} {v:Value} {k:Nat} (h:ErrC w v k) (o:Obj):ErrC (w.alloc o) v k:=by
 rcases h with h|h
 · exact .inl h
 · exact .inr (h.alloc o)
theorem ErrC.zero {w:World} {v:Value} (h:ErrC w v 0):v=.nilIface:=by
 rcases h with h|⟨_,h⟩|⟨h,_⟩
 · exact h
 · exact h
 · exact absurd rfl h
theorem ErrC.succ {w:World} {v:Value} {k:Nat} (h:ErrC w v k) (hk:k≠0):∃t u,v=.iface t u:=by
 rcases h with h|⟨h,_⟩|⟨_,g,s,id,e,hb⟩
 · cases k with
   | zero=>exact absurd rfl hk
   | succ k=>exact ⟨_,_,h⟩
 · exact absurd h hk
 · exact⟨_,_,e⟩
theorem qv0 {k:Nat} (hk:k≠0):errV k=.iface 97 (.int .i64 k):=by
 cases k with
 | zero=>exact absurd rfl hk
 | succ k=>rfl
theorem qs1 (s:ByteArray) (id:Int) (v:Value) (k:Nat) (w:World) (hv:ErrC w v k):
 C9 75 #[.string s,.int .i64 id,v] w (RetW w k s id):=by
 by_cases hk:k=0
 · subst hk
   have:=hv.zero;subst this
   go_enter Tryz.func75,Tryz.ntmps75
   go_wp2;go_ret;exact⟨_,rfl,.inl ⟨rfl,rfl⟩,bel⟩
 · obtain⟨t,u,rfl⟩:=hv.succ hk
   go_enter Tryz.func75,Tryz.ntmps75
   go_wp2;go_ret;exact⟨_,rfl,.inr ⟨hk,_,_,rfl,Blk.new rfl rfl,hv.alloc _⟩,bel⟩
theorem qfn (B n c:Nat) (k:Int) (A:Option Addr) (l:List Pt) (w:World) (hl:qas w B A n l) (hB:B<=w.heap.size) (hn:n<=1000000):
 C9 55 #[obV k A n c] w (RetC w (ckOb ⟨k,l⟩)):=by
 by_cases k1:k=1
 · subst k1
   by_cases h:n=1
   · subst h
     have HF:Hid (ckOb ⟨1,l⟩=qaz (qbm ⟨1,l⟩)):=by simp [Hid,ckOb,qbm,hl.1]
     go_enter Tryz.func55,Tryz.ntmps55
     go_wp2_with fail;refine qab kr kr pq ?_
     simp only [zdy,zey,ldz,lds,bare,qam,lcz,lcs,zay]
     repeat' ((try simp only [Act.put,lsi,lsz,lss]);first|(refine lqx ?_)|(refine qac qaa rfl (fun K hK=> ?_);go_simp;((first|(go_at_call 79;refine(qej _ _).monoR ?_;rintro w1 hb1 hc1 hf1 hz1;(try simp at hz1);have hy0:=ol1 w w1)|skip)<;>(refine hK.out _ _ bel ?_;clear hK K))))
     (all_goals try simp only [Act.put,lsi,lsz,lss]);all_goals(refine qaf ?_)
     go_wp2_with (first|(go_at_call 76;refine(qdt B 1 c 1 A l _ (hl.tr bel hB) (bsz w hB) oQ oQ).monoR ?_;rintro w1 hb1 hc1 hf1 hz1;(try simp at hz1);have hy0:=ol1 w w1)|(go_at_call 78;refine(qb7 _ _ _ _ _).monoR ?_;rintro w1 hb1 hc1 hf1 hz1;(try simp at hz1);have hy0:=ol1 w w1))
     go_ret;exact⟨_,rfl,.inl (by rw [HF.out];rfl),bel⟩
   · have HF:Hid (ckOb ⟨1,l⟩=3):=by simp [Hid,ckOb,hl.1,h]
     have hne:¬ (n:Int)=1:=oQ
     go_enter Tryz.func55,Tryz.ntmps55
     go_wp2_with fail;refine qab kr kr pq ?_
     simp only [zdy,zey,ldz,lds,bare,qam,lcz,lcs,zay]
     repeat' ((try simp only [Act.put,lsi,lsz,lss]);first|(refine lqx ?_)|(refine qac qaa rfl (fun K hK=> ?_);go_simp;((first|(go_at_call 79;refine(qej _ _).monoR ?_;rintro w1 hb1 hc1 hf1 hz1;(try simp at hz1);have hy0:=ol1 w w1)|skip)<;>(refine hK.out _ _ bel ?_;clear hK K))))
     (all_goals try simp only [Act.put,lsi,lsz,lss]);all_goals(refine qaf ?_)
     go_wp2;go_ret;exact⟨_,rfl,.inl (by rw [HF.out];rfl),bel⟩
 by_cases k2:k=2
 · subst k2
   by_cases h:n=1
   · subst h
     have HF:Hid (ckOb ⟨2,l⟩=qjm (pt l 0)):=by simp [Hid,ckOb,hl.1]
     obtain⟨b,off,rfl,hab,c0,c1⟩:=hl.at_ (k:=0) oQ
     simp only [Nat.zero_mul,Nat.add_zero] at c0 c1;have hbw:b<w.heap.size:=oQ
     have hbw1:b<w.heap.size+1:=oQ
     go_enter Tryz.func55,Tryz.ntmps55
     go_wp2_with fail;refine qab kr kr pq ?_
     simp only [zdy,zey,ldz,lds,bare,qam,lcz,lcs,zay]
     repeat' ((try simp only [Act.put,lsi,lsz,lss]);first|(refine lqx ?_)|(refine qac qaa rfl (fun K hK=> ?_);go_simp;((first|(go_at_call 79;refine(qej _ _).monoR ?_;rintro w1 hb1 hc1 hf1 hz1;(try simp at hz1);have hy0:=ol1 w w1)|skip)<;>(refine hK.out _ _ bel ?_;clear hK K))))
     (all_goals try simp only [Act.put,lsi,lsz,lss]);all_goals(refine qaf ?_)
     go_wp2_with (go_at_call 80;refine(qmf _ _ _).monoR ?_;rintro w1 hb1 hc1 hf1 hz1;(try simp at hz1);have hy0:=ol1 w w1)
     go_ret;exact⟨_,rfl,.inl (by rw [HF.out];rfl),bel⟩
   · have HF:Hid (ckOb ⟨2,l⟩=3):=by simp [Hid,ckOb,hl.1,h]
     have hne:¬ (n:Int)=1:=oQ
     go_enter Tryz.func55,Tryz.ntmps55
     go_wp2_with fail;refine qab kr kr pq ?_
     simp only [zdy,zey,ldz,lds,bare,qam,lcz,lcs,zay]
     repeat' ((try simp only [Act.put,lsi,lsz,lss]);first|(refine lqx ?_)|(refine qac qaa rfl (fun K hK=> ?_);go_simp;((first|(go_at_call 79;refine(qej _ _).monoR ?_;rintro w1 hb1 hc1 hf1 hz1;(try simp at hz1);have hy0:=ol1 w w1)|skip)<;>(refine hK.out _ _ bel ?_;clear hK K))))
     (all_goals try simp only [Act.put,lsi,lsz,lss]);all_goals(refine qaf ?_)
     go_wp2;go_ret;exact⟨_,rfl,.inl (by rw [HF.out];rfl),bel⟩
 by_cases k3:k=3
 · subst k3
   by_cases h:n=2
   · subst h
     have HF:Hid (ckOb ⟨3,l⟩=qaz (qbm ⟨3,l⟩)):=by simp [Hid,ckOb,qbm,hl.1]
     go_enter Tryz.func55,Tryz.ntmps55
     go_wp2_with fail;refine qab kr kr pq ?_
     simp only [zdy,zey,ldz,lds,bare,qam,lcz,lcs,zay]
     repeat' ((try simp only [Act.put,lsi,lsz,lss]);first|(refine lqx ?_)|(refine qac qaa rfl (fun K hK=> ?_);go_simp;((first|(go_at_call 79;refine(qej _ _).monoR ?_;rintro w1 hb1 hc1 hf1 hz1;(try simp at hz1);have hy0:=ol1 w w1)|skip)<;>(refine hK.out _ _ bel ?_;clear hK K))))
     (all_goals try simp only [Act.put,lsi,lsz,lss]);all_goals(refine qaf ?_)
     go_wp2_with (first|(go_at_call 76;refine(qdt B 2 c 3 A l _ (hl.tr bel hB) (bsz w hB) oQ oQ).monoR ?_;rintro w1 hb1 hc1 hf1 hz1;(try simp at hz1);have hy0:=ol1 w w1)|(go_at_call 78;refine(qb7 _ _ _ _ _).monoR ?_;rintro w1 hb1 hc1 hf1 hz1;(try simp at hz1);have hy0:=ol1 w w1))
     go_ret;exact⟨_,rfl,.inl (by rw [HF.out];rfl),bel⟩
   · have HF:Hid (ckOb ⟨3,l⟩=3):=by simp [Hid,ckOb,hl.1,h]
     have hne:¬ (n:Int)=2:=oQ
     go_enter Tryz.func55,Tryz.ntmps55
     go_wp2_with fail;refine qab kr kr pq ?_
     simp only [zdy,zey,ldz,lds,bare,qam,lcz,lcs,zay]
     repeat' ((try simp only [Act.put,lsi,lsz,lss]);first|(refine lqx ?_)|(refine qac qaa rfl (fun K hK=> ?_);go_simp;((first|(go_at_call 79;refine(qej _ _).monoR ?_;rintro w1 hb1 hc1 hf1 hz1;(try simp at hz1);have hy0:=ol1 w w1)|skip)<;>(refine hK.out _ _ bel ?_;clear hK K))))
     (all_goals try simp only [Act.put,lsi,lsz,lss]);all_goals(refine qaf ?_)
     go_wp2;go_ret;exact⟨_,rfl,.inl (by rw [HF.out];rfl),bel⟩
 by_cases k4:k=4
 · subst k4
   have HF:Hid (ckOb ⟨4,l⟩=qa7 l):=by simp [Hid,ckOb]
   go_enter Tryz.func55,Tryz.ntmps55
   go_wp2_with (go_at_call 81;refine(qjn B n c A l _ (hl.tr bel hB) (bsz w hB) hn).mono ?_;rintro e w1 ⟨v1,rfl,hv1,hb1⟩;obtain⟨hc1,hf1,hz1⟩:=bc3 hb1;(try simp at hz1))
   go_ret;exact⟨_,rfl,.inr (by rw [HF.out];exact hv1),bel⟩
 · have HF:Hid (ckOb ⟨k,l⟩=5):=by simp [Hid,ckOb,k1,k2,k3,k4]
   go_enter Tryz.func55,Tryz.ntmps55
   go_wp2;go_ret;exact⟨_,rfl,.inl (by rw [HF.out];rfl),bel⟩
theorem qm6 (B n c:Nat) (k:Int) (A:Option Addr) (l:List Pt) (w:World) (hl:qas w B A n l) (hB:B<=w.heap.size) (hn:n<=1000000):
 C9 52 #[obV k A n c] w (RetW w (ckOb ⟨k,l⟩) ⟨#[111,98,106,101,99,116]⟩ k):=by
 go_enter Tryz.func52,Tryz.ntmps52
 go_wp2_with fail;refine qab kr kr pq ?_
 simp only [zdy,zey,ldz,lds,bare,qam,lcz,lcs,zay]
 repeat' ((try simp only [Act.put,lsi,lsz,lss]);first|(refine lqx ?_)|(refine qac qaa rfl (fun K hK=> ?_);go_simp;((first|(go_at_call 55;refine(qfn B n c k A l _ (hl.tr bel hB) (bsz w hB) hn).mono ?_;rintro e w1 ⟨v1,rfl,hv1,hb1⟩;obtain⟨hc1,hf1,hz1⟩:=bc3 hb1;(try simp at hz1))|(go_at_call 75;refine(qs1 _ _ _ _ _ hv1).mono ?_;rintro e w2 ⟨v2,rfl,hv2,hb2⟩;obtain⟨hc2,hf2,hz2⟩:=bc3 hb2;(try simp at hz2))|skip)<;>(refine hK.out _ _ bel ?_;clear hK K))))
 (all_goals try simp only [Act.put,lsi,lsz,lss]);all_goals(refine qaf ?_)
 go_wp2;go_ret;exact⟨_,rfl,hv2,bel⟩
theorem qjy {w:World} {B n b off k:Nat} {l:List Pt} (hl:qas w B (some ⟨b,off,none⟩) n l) (hk:k<n):
 w.cell? ⟨b,off+(k+1)%n*2,none⟩=some (.int .i64 (nx l k).x)/\w.cell? ⟨b,off+(k+1)%n*2+1,none⟩=some (.int .i64 (nx l k).y):=by
 obtain⟨b',off',e,_,c0,c1⟩:=hl.at_ (k:=(k+1)%n) (Nat.mod_lt _ oQ)
 injection e with e
 injection e with e1 e2
 subst e1 e2
 rw [nx,hl.1]
 exact⟨c0,c1⟩
theorem qw4 {l:List Pt} {b:Bx} {k:Nat} (hk:k<l.length) (h:mbox (pt l k) (nx l k) b=true):cutS l b=true:=by
 unfold cutS
 rw [qa2 _ (fun j=>mbox (pt l j) (nx l j) b) k hk h]
 rfl
theorem qeg {k n:Nat} (hk:k<n) (hn:n<=1000000):∃m:Nat,(k+1)%n=m/\IntKind.i64.wrap ((k:Int)+1)=(k:Int)+1/\((k:Int)+1).tmod (n:Int)=(m:Int)/\m<n:=by
 refine⟨(k+1)%n,rfl,IntWalk.i64_in _ oQ,?_,Nat.mod_lt _ oQ⟩
 rw [Int.tmod_eq_emod_of_nonneg oQ,Int.natCast_emod]
 rfl
theorem qsk (B n c:Nat) (b0:Bx) (A:Option Addr) (l:List Pt) (w:World) (hl:qas w B A n l) (hB:B<=w.heap.size) (hn:n<=1000000):
 C9 82 #[.slice A n c,bxW b0] w (Ret w (.bool (cutS l b0))):=by
 go_enter Tryz.func82,Tryz.ntmps82
 go_wp2
 go_loopw [9] (fun i wr=>∃k:Nat,k<=n/\i=.int .i64 k/\Hid (∀j,j<k->mbox (pt l j) (nx l j) b0=false)/\Blk wr w.heap.size 77 #[.int .i64 b0.lo.x,.int .i64 b0.lo.y,.int .i64 b0.hi.x,.int .i64 b0.hi.y]/\Below w.heap.size w wr) (fun i _=>n-(intOf i).toNat)
 case atStart=>exact ⟨0,zly _,rfl,fun j hj=>by omega,Blk.new rfl rfl,bel⟩
 case round=>
  obtain⟨k,hk,rfl,hno,hP,hb⟩:=hrel
  by_cases hlt:k<n
  · obtain⟨b,off,rfl,hab,c0,c1⟩:=(hl.below (hb.mono hB)).at_ hlt
    obtain⟨c2,c3⟩:=qjy (hl.below (hb.mono hB)) hlt;have hPl:=hP.lt;have hPc:=hP.cell;have hPl:=hP.lt;have hbs:=hb.size;have hbw:b<wr.heap.size:=oQ
    have hbw1:b<wr.heap.size+1:=oQ
    have hpw1:w.heap.size<wr.heap.size+1:=oQ
    have hk0:(k:Int)<(n:Int):=oQ
    obtain⟨m,hm,hwr,htm,hml⟩:=qeg hlt hn;rw [hm] at c2 c3;clear hm;have hn0:¬ n=0:=oQ
    have hml0:(m:Int)<(n:Int):=oQ
    go_wp2_with fail;refine qab kr kr pq ?_
    simp only [zdy,zey,ldz,lds,bare,qam,lcz,lcs,zay]
    repeat' ((try simp only [Act.put,lsi,lsz,lss]);first|(refine lqx ?_)|(refine qac qaa rfl (fun K hK=> ?_);go_simp;((first|(go_at_call 100;refine(qmc _ _ _ _ _ _ _ _ _).monoR ?_;rintro w1 hb1 hc1 hf1 hz1;(try simp at hz1);have hy0:=ol1 w w1)|skip)<;>(refine hK.out _ _ bel ?_;clear hK K))))
    (all_goals try simp only [Act.put,lsi,lsz,lss]);all_goals(refine qaf ?_)
    go_wp2
    · go_ret
      exact⟨qae (qw4 (by rw [hl.1];exact hlt) (by assumption)).symm,bel⟩
    · have hf:mbox ⟨(pt l k).x,(pt l k).y⟩ ⟨(nx l k).x,(nx l k).y⟩ ⟨⟨b0.lo.x,b0.lo.y⟩,⟨b0.hi.x,b0.hi.y⟩⟩=false:=by first|assumption|(simpa using (by assumption:¬ mbox ⟨(pt l k).x,(pt l k).y⟩ ⟨(nx l k).x,(nx l k).y⟩ ⟨⟨b0.lo.x,b0.lo.y⟩,⟨b0.hi.x,b0.hi.y⟩⟩=true))
      have HF:=hdQ hf;clear hf
      go_roundw
      case rel=>exact ⟨k+1,by omega,by go_num,fun j hj=>by
       by_cases e:j=k
       · subst e;exact HF.out
       · exact hno.out j oQ,blkA,bel⟩
      case measure=>simp [intOf];omega
  · have HF:Hid (cutS l b0=rhas l b0.lo):=by
     have h:(List.range l.length).any (fun j=>mbox (pt l j) (nx l j) b0)=false:=qaw _ _ fun j hj=>hno.out j (by rw [hl.1] at hj;omega)
     unfold Hid cutS
     rw [h];rfl
    have hPc:=hP.cell;have hPl:=hP.lt
    go_wp2_with (go_at_call 101;refine(qkz B n c _ _ A l _ (hl.tr bel hB) (bsz w hB) hn).monoR ?_;rintro w1 hb1 hc1 hf1 hz1;(try simp at hz1);have hy0:=ol1 w w1)
    go_ret;exact⟨qae HF.out.symm,bel⟩
theorem qqf {a b:List Pt} {i k:Nat} (hi:i<a.length) (hk:k<b.length) (h:qa1 (pt a i) (nx a i) (pt b k) (nx b k)=true):qc9 a b=true:=
 qa2 _ (fun i=>(List.range b.length).any fun k=>qa1 (pt a i) (nx a i) (pt b k) (nx b k)) i hi (qa2 _ (fun k=>qa1 (pt a i) (nx a i) (pt b k) (nx b k)) k hk h)
theorem qqg {a b:List Pt} (h:∀i,i<a.length->∀k,k<b.length->qa1 (pt a i) (nx a i) (pt b k) (nx b k)=false):qc9 a b=false:=
 qaw _ _ fun i hi=>qaw _ _ fun k hk=>h i hi k hk
theorem qth (B n c n' c' :Nat) (A A' :Option Addr) (l l' :List Pt) (w:World) (hl:qas w B A n l) (hl' :qas w B A' n' l') (hB:B<=w.heap.size) (hck:qa7 l=0) (hck' :qa7 l' =0):
 C9 83 #[.slice A n c,.slice A' n' c'] w (Ret w (.bool (qff l l'))):=by
 have h3:3<=n/\n<=64:=by have:=qhq hck;rw [hl.1] at this;exact this
 have h3' :3<=n' /\n' <=64:=by have:=qhq hck';rw [hl'.1] at this;exact this
 have HC:=hdQ hck;have HC' :=hdQ hck';clear hck hck'
 cases hm:qbk ⟨⟨(qah l).lo.x,(qah l).lo.y⟩,⟨(qah l).hi.x,(qah l).hi.y⟩⟩ ⟨⟨(qah l').lo.x,(qah l').lo.y⟩,⟨(qah l').hi.x,(qah l').hi.y⟩⟩
 · have HM:=hdQ hm
   clear hm;have HF:Hid (qff l l' =false):=by unfold Hid qff;rw [show qbk (qah l) (qah l')=false from HM.out];rfl
   go_enter Tryz.func83,Tryz.ntmps83
   go_wp2_with (first|(go_at_call 77;have _hz:=hz1;refine(qeo B n' c' A' l' _ (hl'.tr bel hB) (bsz w hB) HC'.out).monoR ?_;rintro w2 hb2 hc2 hf2 hz2;(try simp at hz2);have hy2:=ol1 w1 w2)|(go_at_call 77;refine(qeo B n c A l _ (hl.tr bel hB) (bsz w hB) HC.out).monoR ?_;rintro w1 hb1 hc1 hf1 hz1;(try simp at hz1))|(go_at_call 28;refine(qhj _ _ _ _ _ _ _ _ _).mono ?_;rw [HM.out];rintro e w1 ⟨rfl,hb1⟩;obtain⟨hc1,hf1,hz1⟩:=bc3 hb1;(try simp at hz1)))
   go_ret;exact⟨qae HF.out.symm,bel⟩
 · have HM:=hdQ hm
   clear hm;have HF:Hid (qff l l' =(qc9 l l'||(rhas l (pt l' 0)||rhas l' (pt l 0)))):=by unfold Hid qff;rw [show qbk (qah l) (qah l')=true from HM.out];rfl
   go_enter Tryz.func83,Tryz.ntmps83
   go_wp2_with (first|(go_at_call 77;have _hz:=hz1;refine(qeo B n' c' A' l' _ (hl'.tr bel hB) (bsz w hB) HC'.out).monoR ?_;rintro w2 hb2 hc2 hf2 hz2;(try simp at hz2);have hy2:=ol1 w1 w2)|(go_at_call 77;refine(qeo B n c A l _ (hl.tr bel hB) (bsz w hB) HC.out).monoR ?_;rintro w1 hb1 hc1 hf1 hz1;(try simp at hz1))|(go_at_call 28;refine(qhj _ _ _ _ _ _ _ _ _).mono ?_;rw [HM.out];rintro e w1 ⟨rfl,hb1⟩;obtain⟨hc1,hf1,hz1⟩:=bc3 hb1;(try simp at hz1)))
   have hb0:Below w.heap.size w w1:=bel;clear hb1 hc1 hf1 hb2 hc2 hf2 _hz hz1;have hd1:decide ((1:Int)<=0)=false:=rfl
   go_loopw [29] (fun i wr=>∃k:Nat,k<=n/\i=.int .i64 k/\Hid (∀j,j<k->∀m,m<n' ->qa1 (pt l j) (nx l j) (pt l' m) (nx l' m)=false)/\Below w.heap.size w wr) (fun i _=>n-(intOf i).toNat)
   case atStart=>exact ⟨0,zly _,rfl,fun j hj=>by omega,hb0⟩
   case round=>
    obtain⟨k,hk,rfl,hno,hb⟩:=hrel
    by_cases hlt:k<n
    · obtain⟨b,off,rfl,hab,c0,c1⟩:=(hl.below (hb.mono hB)).at_ hlt
      have hbs:=hb.size;have hbw:b<wr.heap.size:=oQ
      have hk0:(k:Int)<(n:Int):=oQ
      obtain⟨wo,hwo⟩:∃wo:World,wo=wr:=⟨_,rfl⟩;subst hwo;go_wp2
      go_loopw [36] (fun i wr=>∃m:Nat,m<=n' /\i=.int .i64 m/\Hid (∀j,j<m->qa1 (pt l k) (nx l k) (pt l' j) (nx l' j)=false)/\Blk wr wo.heap.size 52 #[.int .i64 (pt l k).x,.int .i64 (pt l k).y]/\Below w.heap.size w wr) (fun i _=>n' - (intOf i).toNat)
      case atStart=>exact ⟨0,zly _,rfl,fun j hj=>by omega,Blk.new rfl rfl,bel⟩
      case round=>
       obtain⟨q,hq,rfl,hnq,hP,hb3⟩:=hrel
       by_cases hqt:q<n'
       · obtain⟨b',off',rfl,hab',d0,d1⟩:=(hl'.below (hb3.mono hB)).at_ hqt
         obtain⟨c2,c3⟩:=qjy (hl.below (hb3.mono hB)) hlt;obtain⟨d2,d3⟩:=qjy (hl'.below (hb3.mono hB)) hqt;have hPl:=hP.lt;have hPc:=hP.cell;have hbs3:=hb3.size;have hbw0:b<wr.heap.size:=oQ
         have hbw1:b<wr.heap.size+1:=oQ
         have hbw2:b' <wr.heap.size:=oQ
         have hbw3:b' <wr.heap.size+1:=oQ
         have hpw1:wo.heap.size<wr.heap.size+1:=oQ
         have hq0:(q:Int)<(n' :Int):=oQ
         obtain⟨m,hm,hwr,htm,hml⟩:=qeg hlt oQ
         rw [hm] at c2 c3;clear hm;obtain⟨m',hm',hwr',htm',hml'⟩:=qeg hqt oQ
         rw [hm'] at d2 d3;clear hm';have hn0:¬ n=0:=oQ
         have hn0' :¬ n' =0:=oQ
         have hml0:(m:Int)<(n:Int):=oQ
         have hml0' :(m' :Int)<(n' :Int):=oQ
         go_wp2_with fail;refine qab kr kr pq ?_
         simp only [zdy,zey,ldz,lds,bare,qam,lcz,lcs,zay]
         repeat' ((try simp only [Act.put,lsi,lsz,lss]);first|(refine lqx ?_)|(refine qac qaa rfl (fun K hK=> ?_);go_simp;((first|(go_at_call 102;refine(qla _ _ _ _ _ _ _ _ _).monoR ?_;rintro w1 hb1 hc1 hf1 hz1;(try simp at hz1))|skip)<;>(refine hK.out _ _ bel ?_;clear hK K))))
         (all_goals try simp only [Act.put,lsi,lsz,lss]);all_goals(refine qaf ?_)
         go_wp2
         · go_ret
           exact⟨qae (by rw [HF.out,qqf (i:=k) (k:=q) (by rw [hl.1];exact hlt) (by rw [hl'.1];exact hqt) (by assumption)];rfl),bel⟩
         · have hf:qa1 ⟨(pt l k).x,(pt l k).y⟩ ⟨(nx l k).x,(nx l k).y⟩ ⟨(pt l' q).x,(pt l' q).y⟩ ⟨(nx l' q).x,(nx l' q).y⟩=false:=by first|assumption|(simpa using (by assumption:¬ qa1 ⟨(pt l k).x,(pt l k).y⟩ ⟨(nx l k).x,(nx l k).y⟩ ⟨(pt l' q).x,(pt l' q).y⟩ ⟨(nx l' q).x,(nx l' q).y⟩=true))
           have HN:=hdQ hf;clear hf
           go_roundw
           case rel=>exact ⟨q+1,by omega,by go_num,fun j hj=>by
            by_cases e:j=q
            · subst e;exact HN.out
            · exact hnq.out j oQ,blkA,bel⟩
           case measure=>simp [intOf];omega
       · go_wp2
         go_roundw
         case rel=>exact ⟨k+1,by omega,by go_num,fun j hj p hp=>by
          by_cases e:j=k
          · subst e;exact hnq.out p oQ
          · exact hno.out j oQ p hp,bel⟩
         case measure=>simp [intOf];omega
    · have HG:Hid (qff l l' =(rhas l (pt l' 0)||rhas l' (pt l 0))):=by
       unfold Hid
       rw [HF.out,qqg (fun i hi p hp=>hno.out i (by rw [hl.1] at hi;omega) p (by rw [<-hl'.1];exact hp))]
       rfl
      obtain⟨b,off,rfl,hab,c0,c1⟩:=(hl.below (hb.mono hB)).at_ (k:=0) oQ
      obtain⟨b',off',rfl,hab',d0,d1⟩:=(hl'.below (hb.mono hB)).at_ (k:=0) oQ
      simp only [Nat.zero_mul,Nat.add_zero] at c0 c1 d0 d1;have hbs:=hb.size;have hbw:b<wr.heap.size:=oQ
      have hbw' :b' <wr.heap.size:=oQ
      have hn1:0<n:=oQ
      have hn1' :0<n' :=oQ
      go_wp2_with (first|(go_at_call 101;have _hz:=hza;refine(qkz B n' c' _ _ _ l' _ (hl'.tr bel hB) (bsz w hB) oQ).monoR ?_;rintro w1 hb1 hc1 hf1 hz1;(try simp at hz1))|(go_at_call 101;refine(qkz B n c _ _ _ l _ (hl.tr bel hB) (bsz w hB) oQ).monoR ?_;rintro wa hba hca hfa hza;(try simp at hza)))
      all_goals go_ret
      all_goals exact⟨qae (by rw [HG.out];first|(rw [show rhas l (pt l' 0)=true by assumption];rfl)|(rw [show rhas l (pt l' 0)=false from Bool.eq_false_iff.2 (by assumption)];rfl)),bel⟩
theorem qjl {k:Int} {l:List Pt} (h:ckOb ⟨k,l⟩=0):(k=1\/k=2->1<=l.length)/\(k=3->2<=l.length)/\l.length<=64/\(qcn ⟨k,l⟩=false->qa7 l=0):=by
 by_cases k1:k=1
 · subst k1
   have h1:l.length=1:=by
    by_cases e:l.length=1
    · exact e
    · simp [ckOb,e] at h
   exact⟨fun _=>by omega,fun h=>by omega,by omega,fun hb=>by simp [qcn] at hb⟩
 by_cases k2:k=2
 · subst k2
   have h1:l.length=1:=by
    by_cases e:l.length=1
    · exact e
    · simp [ckOb,e] at h
   exact⟨fun _=>by omega,fun h=>by omega,by omega,fun hb=>by simp [qcn] at hb⟩
 by_cases k3:k=3
 · subst k3
   have h1:l.length=2:=by
    by_cases e:l.length=2
    · exact e
    · simp [ckOb,e] at h
   exact⟨fun _=>by omega,fun h=>by omega,by omega,fun hb=>by simp [qcn] at hb⟩
 by_cases k4:k=4
 · subst k4
   have h4:qa7 l=0:=by simpa [ckOb] using h
   have:=qhq h4;exact⟨fun _=>by omega,fun h=>by omega,by omega,fun _=>h4⟩
 · simp [ckOb,k1,k2,k3,k4] at h
theorem qt4 (B n c n' c' :Nat) (k k' :Int) (A A' :Option Addr) (l l' :List Pt) (w:World) (hl:qas w B A n l) (hl' :qas w B A' n' l') (hB:B<=w.heap.size) (hck:ckOb ⟨k,l⟩=0) (hck' :ckOb ⟨k',l'⟩=0):
 C9 56 #[obV k A n c,obV k' A' n' c'] w (Ret w (.bool (qco ⟨k,l⟩ ⟨k',l'⟩))):=by
 obtain⟨p1,p2,p3,p4⟩:=qjl hck;obtain⟨q1,q2,q3,q4⟩:=qjl hck';rw [hl.1] at p1 p2 p3;rw [hl'.1] at q1 q2 q3
 cases hx:qcn ⟨k,l⟩<;>cases hy:qcn ⟨k',l'⟩
 · have HX:=hdQ hx
   have HY:=hdQ hy;have HF:Hid (qco ⟨k,l⟩ ⟨k',l'⟩=qff l l'):=by simp [Hid,qco,hx,hy]
   have P4:=hdQ (p4 hx);have Q4:=hdQ (q4 hy);clear hx hy p4 q4
   go_enter Tryz.func56,Tryz.ntmps56
   go_wp2_with (first|(go_at_call 76;have _hz:=hza;refine(qdt B n' c' k' A' l' _ (hl'.tr bel hB) (bsz w hB) (by assumption) (by assumption)).mono ?_;rw [HY.out];rintro e w1 ⟨rfl,hb1⟩;obtain⟨hc1,hf1,hz1⟩:=bc3 hb1;(try simp at hz1);obtain⟨hy0,hy1⟩:=ol2 w w1)|(go_at_call 76;refine(qdt B n c k A l _ (hl.tr bel hB) (bsz w hB) (by assumption) (by assumption)).mono ?_;rw [HX.out];rintro e wa ⟨rfl,hba⟩;obtain⟨hca,hfa,hza⟩:=bc3 hba;(try simp at hza);obtain⟨hy0,hy1⟩:=ol2 w wa)|(go_at_call 83;refine(qth B n c n' c' A A' l l' _ (hl.tr bel hB) (hl'.tr bel hB) (bsz w hB) P4.out Q4.out).monoR ?_;rintro w1 hb1 hc1 hf1 hz1;(try simp at hz1);obtain⟨hy0,hy1⟩:=ol2 w w1))
   go_ret;exact⟨qae HF.out.symm,bel⟩
 · have HX:=hdQ hx
   have HY:=hdQ hy;have HF:Hid (qco ⟨k,l⟩ ⟨k',l'⟩=cutS l (qbm ⟨k',l'⟩)):=by simp [Hid,qco,hx,hy]
   clear hx hy p4 q4
   go_enter Tryz.func56,Tryz.ntmps56
   go_wp2_with (first|(go_at_call 76;have _hz:=hza;refine(qdt B n' c' k' A' l' _ (hl'.tr bel hB) (bsz w hB) (by assumption) (by assumption)).mono ?_;rw [HY.out];rintro e w1 ⟨rfl,hb1⟩;obtain⟨hc1,hf1,hz1⟩:=bc3 hb1;(try simp at hz1);have hy0:w.heap.size<w1.heap.size:=oQ;have hy1:w.heap.size+1<w1.heap.size:=oQ;have hya:wa.heap.size<w1.heap.size:=oQ)|(go_at_call 76;refine(qdt B n c k A l _ (hl.tr bel hB) (bsz w hB) (by assumption) (by assumption)).mono ?_;rw [HX.out];rintro e wa ⟨rfl,hba⟩;obtain⟨hca,hfa,hza⟩:=bc3 hba;(try simp at hza);obtain⟨hy0,hy1⟩:=ol2 w wa)|(go_at_call 82;refine(qsk B n c (qbm ⟨k',l'⟩) A l _ (hl.tr bel hB) (bsz w hB) oQ).monoR ?_;rintro w1 hb1 hc1 hf1 hz1;(try simp at hz1);obtain⟨hy0,hy1⟩:=ol2 w w1))
   go_ret;exact⟨qae HF.out.symm,bel⟩
 · have HX:=hdQ hx
   have HY:=hdQ hy;have HF:Hid (qco ⟨k,l⟩ ⟨k',l'⟩=cutS l' (qbm ⟨k,l⟩)):=by simp [Hid,qco,hx,hy]
   clear hx hy p4 q4
   go_enter Tryz.func56,Tryz.ntmps56
   go_wp2_with (first|(go_at_call 76;have _hz:=hza;refine(qdt B n' c' k' A' l' _ (hl'.tr bel hB) (bsz w hB) (by assumption) (by assumption)).mono ?_;rw [HY.out];rintro e w1 ⟨rfl,hb1⟩;obtain⟨hc1,hf1,hz1⟩:=bc3 hb1;(try simp at hz1);have hy0:w.heap.size<w1.heap.size:=oQ;have hy1:w.heap.size+1<w1.heap.size:=oQ;have hya:wa.heap.size<w1.heap.size:=oQ)|(go_at_call 76;refine(qdt B n c k A l _ (hl.tr bel hB) (bsz w hB) (by assumption) (by assumption)).mono ?_;rw [HX.out];rintro e wa ⟨rfl,hba⟩;obtain⟨hca,hfa,hza⟩:=bc3 hba;(try simp at hza);obtain⟨hy0,hy1⟩:=ol2 w wa)|(go_at_call 82;refine(qsk B n' c' (qbm ⟨k,l⟩) A' l' _ (hl'.tr bel hB) (bsz w hB) oQ).monoR ?_;rintro w1 hb1 hc1 hf1 hz1;(try simp at hz1);obtain⟨hy0,hy1⟩:=ol2 w w1))
   go_ret;exact⟨qae HF.out.symm,bel⟩
 · have HX:=hdQ hx
   have HY:=hdQ hy;have HF:Hid (qco ⟨k,l⟩ ⟨k',l'⟩=qbk (qbm ⟨k,l⟩) (qbm ⟨k',l'⟩)):=by simp [Hid,qco,hx,hy]
   clear hx hy p4 q4
   go_enter Tryz.func56,Tryz.ntmps56
   go_wp2_with (first|(go_at_call 76;have _hz:=hza;refine(qdt B n' c' k' A' l' _ (hl'.tr bel hB) (bsz w hB) (by assumption) (by assumption)).mono ?_;rw [HY.out];rintro e w1 ⟨rfl,hb1⟩;obtain⟨hc1,hf1,hz1⟩:=bc3 hb1;(try simp at hz1);have hy0:w.heap.size<w1.heap.size:=oQ;have hy1:w.heap.size+1<w1.heap.size:=oQ;have hya:wa.heap.size<w1.heap.size:=oQ)|(go_at_call 76;refine(qdt B n c k A l _ (hl.tr bel hB) (bsz w hB) (by assumption) (by assumption)).mono ?_;rw [HX.out];rintro e wa ⟨rfl,hba⟩;obtain⟨hca,hfa,hza⟩:=bc3 hba;(try simp at hza);obtain⟨hy0,hy1⟩:=ol2 w wa)|(go_at_call 28;refine(qhj _ _ _ _ _ _ _ _ _).monoR ?_;rintro w1 hb1 hc1 hf1 hz1;(try simp at hz1);obtain⟨hy0,hy1⟩:=ol2 w w1))
   go_ret;exact⟨qae HF.out.symm,bel⟩
theorem qss (B n c:Nat) (k:Int) (A:Option Addr) (l:List Pt) (w:World) (hl:qas w B A n l) (hB:B<=w.heap.size) (hck:ckOb ⟨k,l⟩=0):
 C9 53 #[obV k A n c] w (Ret w (bxW (qaj ⟨k,l⟩))):=by
 obtain⟨p1,p2,p3,p4⟩:=qjl hck;rw [hl.1] at p1 p2 p3
 cases hx:qcn ⟨k,l⟩
 · have HX:=hdQ hx
   have HF:Hid (qaj ⟨k,l⟩=qah l):=by simp [Hid,qaj,hx]
   have P4:=hdQ (p4 hx);clear hx p4
   go_enter Tryz.func53,Tryz.ntmps53
   go_wp2_with (first|(go_at_call 76;refine(qdt B n c k A l _ (hl.tr bel hB) (bsz w hB) (by assumption) (by assumption)).mono ?_;rw [HX.out];rintro e wa ⟨rfl,hba⟩;obtain⟨hca,hfa,hza⟩:=bc3 hba;(try simp at hza);obtain⟨hy0,hy1⟩:=ol2 w wa)|(go_at_call 77;refine(qeo B n c A l _ (hl.tr bel hB) (bsz w hB) P4.out).monoR ?_;rintro w1 hb1 hc1 hf1 hz1;(try simp at hz1);have hy2:w.heap.size<w1.heap.size:=oQ;have hy3:w.heap.size+1<w1.heap.size:=oQ;have hya:wa.heap.size<w1.heap.size:=oQ))
   have hQ:Blk w1 (w.heap.size+1) 77 #[.int .i64 0,.int .i64 0,.int .i64 0,.int .i64 0]:=blkA;have HR:=(Blk.set_ (Blk.set_ (Blk.set_ (Blk.set_ (Blk.far (Blk.far (Blk.far (Blk.far hQ (p:=⟨wa.heap.size,0,none⟩) (by simp;omega) (.int .i64 (qah l).lo.x)) (p:=⟨wa.heap.size,1,none⟩) (by simp;omega) (.int .i64 (qah l).lo.y)) (p:=⟨wa.heap.size,2,none⟩) (by simp;omega) (.int .i64 (qah l).hi.x)) (p:=⟨wa.heap.size,3,none⟩) (by simp;omega) (.int .i64 (qah l).hi.y)) 0 (.int .i64 (qah l).lo.x)) 1 (.int .i64 (qah l).lo.y)) 2 (.int .i64 (qah l).hi.x)) 3 (.int .i64 (qah l).hi.y))
   have r0:=HR.cell 0;have r1:=HR.cell 1;have r2:=HR.cell 2;have r3:=HR.cell 3
   simp at r0 r1 r2 r3
   exact bodyPost_ret (v:=bxW (qah l)) (by simp [results,Tryz.results53,go_sem,r0,r1,r2,r3]) rfl ⟨by rw [HF.out],bel⟩
 · have HX:=hdQ hx
   have HF:Hid (qaj ⟨k,l⟩=qbm ⟨k,l⟩):=by simp [Hid,qaj,hx]
   clear hx p4
   go_enter Tryz.func53,Tryz.ntmps53
   go_wp2_with (first|(go_at_call 76;refine(qdt B n c k A l _ (hl.tr bel hB) (bsz w hB) (by assumption) (by assumption)).mono ?_;rw [HX.out];rintro e wa ⟨rfl,hba⟩;obtain⟨hca,hfa,hza⟩:=bc3 hba;(try simp at hza);obtain⟨hy0,hy1⟩:=ol2 w wa))
   have hQ:Blk wa (w.heap.size+1) 77 #[.int .i64 0,.int .i64 0,.int .i64 0,.int .i64 0]:=blkA;have HR:=Blk.alloc (Blk.set_ (Blk.set_ (Blk.set_ (Blk.set_ hQ 0 (.int .i64 (qbm ⟨k,l⟩).lo.x)) 1 (.int .i64 (qbm ⟨k,l⟩).lo.y)) 2 (.int .i64 (qbm ⟨k,l⟩).hi.x)) 3 (.int .i64 (qbm ⟨k,l⟩).hi.y)) (.cells #[.int .i64 (qbm ⟨k,l⟩).lo.x,.int .i64 (qbm ⟨k,l⟩).lo.y,.int .i64 (qbm ⟨k,l⟩).hi.x,.int .i64 (qbm ⟨k,l⟩).hi.y] 77);have r0:=HR.cell 0;have r1:=HR.cell 1;have r2:=HR.cell 2;have r3:=HR.cell 3
   simp at r0 r1 r2 r3
   exact bodyPost_ret (v:=bxW (qbm ⟨k,l⟩)) (by simp [results,Tryz.results53,go_sem,r0,r1,r2,r3]) rfl ⟨by rw [HF.out],bel⟩
theorem qgm (B n c:Nat) (k:Int) (A:Option Addr) (l:List Pt) (w:World) (hl:qas w B A n l) (hB:B<=w.heap.size) (hn:n<=1000000) (h:ckOb ⟨k,l⟩=0):
 C9 55 #[obV k A n c] w (Ret w .nilIface):=by
 refine(qfn B n c k A l w hl hB hn).mono ?_;rintro e w' ⟨v,he,hv,hb⟩;rw [h] at hv;exact⟨by rw [he,hv.zero],hb⟩
theorem qic (B n c:Nat) (k:Int) (A:Option Addr) (l:List Pt) (w:World) (hl:qas w B A n l) (hB:B<=w.heap.size) (hn:n<=1000000) (h:ckOb ⟨k,l⟩≠0):
 C9 55 #[obV k A n c] w fun e w' =>∃t u,e=.returned (.iface t u)/\Below w.heap.size w w' :=by
 refine(qfn B n c k A l w hl hB hn).mono ?_;rintro e w' ⟨v,he,hv,hb⟩;obtain⟨t,u,rfl⟩:=hv.succ h;exact⟨t,u,he,hb⟩
theorem pts2 {w:World} {g:Nat} {p q:Pt} {t:TypeId} (h:Blk w g t #[.int .i64 p.x,.int .i64 p.y,.int .i64 q.x,.int .i64 q.y]):qas w w.heap.size (some ⟨g,0,none⟩) 2 [p,q]:=
 ⟨rfl,fun _=>⟨g,0,rfl,h.lt,fun k r hr=>by
  match k,hr with
  | 0,hr=>
    simp at hr
    subst hr;exact⟨by rw [h.cell];rfl,by rw [h.cell];rfl⟩
  | 1,hr=>
    simp at hr
    subst hr
    exact⟨by rw [h.cell];rfl,by rw [h.cell];rfl⟩⟩⟩
end Go.Proofs.YteodamnfgcnmmaaGreat

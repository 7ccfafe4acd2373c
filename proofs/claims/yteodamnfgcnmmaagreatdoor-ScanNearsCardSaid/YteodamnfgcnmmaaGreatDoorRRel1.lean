/-Contracts of package rel: box, verts, interval.-/
import Derived.Test.YteodamnfgcnmmaaGreatDoorRRing
set_option linter.unusedVariables false
set_option linter.unusedSimpArgs false
set_option maxHeartbeats 1000000
set_option maxRecDepth 20000
namespace Go.Proofs.YteodamnfgcnmmaaGreatDoor
open Go.RowKit Pg
abbrev obV (k:Int) (A:Option Addr) (n c:Nat):Value:=.agg #[.int .i64 k,.slice A n c]
abbrev bxW (b:Bx):Value:=bxV b.lo.x b.lo.y b.hi.x b.hi.y
theorem qo2 (B n c:Nat) (k:Int) (A:Option Addr) (l:List Pt) (w:World) (hl:qax w B A n l) (hB:B<=w.heap.size) (h1:k=1\/k=2->1<=n) (h2:k=3->2<=n):
 C9 89 #[obV k A n c] w (Ret w (.tuple #[bxW (qco ⟨k,l⟩),.bool (qdi ⟨k,l⟩)])):=by
 by_cases k1:k=1
 · subst k1
   have hn:=h1 (.inl rfl);obtain⟨b,off,rfl,hab,c0,c1⟩:=hl.at_ (k:=0) hn;have hn' :0<n:=oQ
   have hbw:b<w.heap.size:=oQ
   have hbw1:b<w.heap.size+1:=oQ
   have hbw2:b<w.heap.size+1+1:=oQ
   simp only [Nat.zero_mul,Nat.add_zero] at c0 c1;have HR:Hid (qco ⟨1,l⟩=⟨pt l 0,pt l 0⟩):=by simp [Hid,qco]
   go_enter Tryz.func89,Tryz.ntmps89
   go_wp2_with fail;refine qa3 (w.heap.size+1) [0,1,2,3,4,5,6,7,8,9,10] kr kr pq ?_
   simp only [zdy,zey,ldz,lds,bare,qal,lcz,lcs,zay]
   repeat' ((try simp only [Act.put,lsi,lsz,lss]);first|(refine lqy ?_)|(refine qab qaa rfl (fun K hK=> ?_);go_simp;((first|fail|skip)<;>(refine hK.out _ _ (by first|with_reducible exact qbq|with_reducible exact Below.drew qbq|exact bel) ?_;clear hK K))))
   (all_goals try simp only [Act.put,lsi,lsz,lss]);all_goals(refine qad ?_)
   go_wp2;exact bodyPost_ret (v:=.tuple #[bxW (qco ⟨1,l⟩),.bool (qdi ⟨1,l⟩)]) (by simp [results,Tryz.results89,go_sem,HR.out,qdi]) rfl ⟨rfl,bel⟩
 by_cases k2:k=2
 · subst k2
   have hn:=h1 (.inr rfl);obtain⟨b,off,rfl,hab,c0,c1⟩:=hl.at_ (k:=0) hn;have hn' :0<n:=oQ
   have hbw:b<w.heap.size:=oQ
   have hbw1:b<w.heap.size+1:=oQ
   have hbw2:b<w.heap.size+1+1:=oQ
   simp only [Nat.zero_mul,Nat.add_zero] at c0 c1;have HR:Hid (qco ⟨2,l⟩=⟨⟨(pt l 0).x,0⟩,⟨(pt l 0).y,0⟩⟩):=by simp [Hid,qco]
   go_enter Tryz.func89,Tryz.ntmps89
   go_wp2_with fail;refine qa3 (w.heap.size+1) [0,1,2,3,4,5,6,7,8,9,10,11,12,13,14] kr kr pq ?_
   simp only [zdy,zey,ldz,lds,bare,qal,lcz,lcs,zay]
   repeat' ((try simp only [Act.put,lsi,lsz,lss]);first|(refine lqy ?_)|(refine qab qaa rfl (fun K hK=> ?_);go_simp;((first|fail|skip)<;>(refine hK.out _ _ (by first|with_reducible exact qbq|with_reducible exact Below.drew qbq|exact bel) ?_;clear hK K))))
   (all_goals try simp only [Act.put,lsi,lsz,lss]);all_goals(refine qad ?_)
   go_wp2;exact bodyPost_ret (v:=.tuple #[bxW (qco ⟨2,l⟩),.bool (qdi ⟨2,l⟩)]) (by simp [results,Tryz.results89,go_sem,HR.out,qdi]) rfl ⟨rfl,bel⟩
 by_cases k3:k=3
 · subst k3
   have hn:=h2 rfl;obtain⟨b,off,rfl,hab,c0,c1⟩:=hl.at_ (k:=0) oQ
   obtain⟨b',off',he,hab',c2,c3⟩:=hl.at_ (k:=1) oQ
   injection he with he
   injection he with he1 he2
   subst he1 he2;have hn' :0<n:=oQ
   have hn2:1<n:=oQ
   have hn3:(1:Int)<n:=oQ
   have hbw:b<w.heap.size:=oQ
   have hbw1:b<w.heap.size+1:=oQ
   have hbw2:b<w.heap.size+1+1:=oQ
   simp only [Nat.zero_mul,Nat.add_zero,Nat.one_mul] at c0 c1 c2 c3;have HR:Hid (qco ⟨3,l⟩=⟨pt l 0,pt l 1⟩):=by simp [Hid,qco]
   go_enter Tryz.func89,Tryz.ntmps89
   go_wp2_with fail;refine qa3 (w.heap.size+1) [0,1,2,3,4,5,6,7,8,9,10] kr kr pq ?_
   simp only [zdy,zey,ldz,lds,bare,qal,lcz,lcs,zay]
   repeat' ((try simp only [Act.put,lsi,lsz,lss]);first|(refine lqy ?_)|(refine qab qaa rfl (fun K hK=> ?_);go_simp;((first|fail|skip)<;>(refine hK.out _ _ (by first|with_reducible exact qbq|with_reducible exact Below.drew qbq|exact bel) ?_;clear hK K))))
   (all_goals try simp only [Act.put,lsi,lsz,lss]);all_goals(refine qad ?_)
   go_wp2;exact bodyPost_ret (v:=.tuple #[bxW (qco ⟨3,l⟩),.bool (qdi ⟨3,l⟩)]) (by simp [results,Tryz.results89,go_sem,HR.out,qdi]) rfl ⟨rfl,bel⟩
 · have HR:Hid (qco ⟨k,l⟩=qdg):=by simp [Hid,qco,k1,k2,k3]
   have HI:Hid (qdi ⟨k,l⟩=false):=by simp [Hid,qdi,k1,k2,k3]
   go_enter Tryz.func89,Tryz.ntmps89
   go_wp2;exact bodyPost_ret (v:=.tuple #[bxW (qco ⟨k,l⟩),.bool (qdi ⟨k,l⟩)]) (by simp [results,Tryz.results89,go_sem,HR.out,HI.out,qdg]) rfl ⟨rfl,bel⟩
theorem qfv (k:Int) (w:World):C9 131 #[.int .i64 k] w (Ret w (.int .i64 (if k=3 then 2 else 1))):=by
 by_cases h:k=3
 all_goals
  go_enter Tryz.func131,Tryz.ntmps131
  go_wp2;go_ret;exact⟨rfl,bel⟩
theorem qq1 (x y:Int) (w:World):C9 132 #[ptV x y] w (Ret w (errV (qmf ⟨x,y⟩))):=by
 cases h:okPt ⟨x,y⟩
 · have HE:Hid (errV (if okPt ⟨x,y⟩=true then 0 else 2)=.iface 105 (.int .i64 2)):=by unfold Hid;rw [h];rfl
   have HF:Hid (qmf ⟨x,y⟩=2):=by simp [Hid,qmf,h]
   clear h
   go_enter Tryz.func132,Tryz.ntmps132
   go_wp2_with (go_at_call 22;refine(qa0 _ _ _).mono ?_;rw [HE.out];rintro e w1 ⟨rfl,hb1⟩;obtain⟨hc1,hf1,hz1⟩:=bc3 hb1;(try simp at hz1);have hy0:=ol1 w w1)
   go_ret;exact⟨by rw [HF.out];rfl,bel⟩
 · have HE:Hid (errV (if okPt ⟨x,y⟩=true then 0 else 2)=.nilIface):=by unfold Hid;rw [h];rfl
   have HF:Hid (qmf ⟨x,y⟩=if y<x then 1 else 0):=by simp [Hid,qmf,h]
   clear h
   by_cases hlt:y<x
   all_goals
    go_enter Tryz.func132,Tryz.ntmps132
    go_wp2_with (go_at_call 22;refine(qa0 _ _ _).mono ?_;rw [HE.out];rintro e w1 ⟨rfl,hb1⟩;obtain⟨hc1,hf1,hz1⟩:=bc3 hb1;(try simp at hz1);have hy0:=ol1 w w1)
    go_ret;exact⟨by rw [HF.out];first|(rw [if_pos oQ];rfl)|(rw [if_neg oQ];rfl),bel⟩
def ErrC (w:World) (v:Value) (k:Nat):Prop:=v=errV k\/ErrR w v k
def RetC (w:World) (k:Nat):Ending->World->Prop:=fun e w' =>∃v,e=.returned v/\ErrC w' v k/\Below w.heap.size w w'
def ErrW (w:World) (v:Value) (k:Nat) (s:ByteArray) (id:Int):Prop:=(k=0/\v=.nilIface)\/(k≠0/\∃(g:Nat) (inner:Value),v=qj0 g/\Blk w g 86 #[.string s,.int .i64 id,inner]/\ErrC w inner k)
def RetW (w:World) (k:Nat) (s:ByteArray) (id:Int):Ending->World->Prop:=fun e w' =>∃v,e=.returned v/\ErrW w' v k s id/\Below w.heap.size w w'
theorem ErrR.alloc {w:World} {v:Value} {k:Nat} (h:ErrR w v k) (o:Obj):ErrR (w.alloc o) v k:=by
 rcases h with h|⟨h0,g,s,id,e,hb⟩
 · exact .inl h
 · exact .inr ⟨h0,g,s,id,e,hb.alloc o⟩
theorem ErrC.alloc {w:World} {v:Value} {k:Nat} (h:ErrC w v k) (o:Obj):ErrC (w.alloc o) v k:=by
 rcases h with h|h
 · exact .inl h
 · exact .inr (h.alloc o)
theorem ErrC.zero {w:World} {v:Value} (h:ErrC w v 0):v=.nilIface:=by
 rcases h with h|⟨_,h⟩|⟨h,_⟩
 · exact h
 · exact h
 · exact absurd rfl h
theorem ErrC.succ {w:World} {v:Value} {k:Nat} (h:ErrC w v k) (hk:k≠0):∃t u,v=.iface t u:=by
 rcases h with h|⟨h,_⟩|⟨_,g,s,id,e,hb⟩
 · cases k with
   | zero=>exact absurd rfl hk
   | succ k=>exact ⟨_,_,h⟩
 · exact absurd h hk
 · exact⟨_,_,e⟩
theorem q5l {k:Nat} (hk:k≠0):errV k=.iface 105 (.int .i64 k):=by
 cases k with
 | zero=>exact absurd rfl hk
 | succ k=>rfl
theorem q00 (s:ByteArray) (id:Int) (v:Value) (k:Nat) (w:World) (hv:ErrC w v k):
 C9 72 #[.string s,.int .i64 id,v] w (RetW w k s id):=by
 by_cases hk:k=0
 · subst hk
   have:=hv.zero;subst this
   go_enter Tryz.func72,Tryz.ntmps72
   go_wp2;go_ret;exact⟨_,rfl,.inl ⟨rfl,rfl⟩,bel⟩
 · obtain⟨t,u,rfl⟩:=hv.succ hk
   go_enter Tryz.func72,Tryz.ntmps72
   go_wp2;go_ret;exact⟨_,rfl,.inr ⟨hk,_,_,rfl,Blk.new rfl rfl,hv.alloc _⟩,bel⟩
theorem qgx (B n c:Nat) (k:Int) (A:Option Addr) (l:List Pt) (w:World) (hl:qax w B A n l) (hB:B<=w.heap.size) (hn:n<=1000000):
 C9 88 #[obV k A n c] w (RetC w (ckOb ⟨k,l⟩)):=by
 by_cases k1:k=1
 · subst k1
   by_cases h:n=1
   · subst h
     have HF:Hid (ckOb ⟨1,l⟩=qba (qco ⟨1,l⟩)):=by simp [Hid,ckOb,qco,hl.1]
     go_enter Tryz.func88,Tryz.ntmps88
     go_wp2_with fail;refine qac kr kr pq ?_
     simp only [zdy,zey,ldz,lds,bare,qal,lcz,lcs,zay]
     repeat' ((try simp only [Act.put,lsi,lsz,lss]);first|(refine lqx ?_)|(refine qab qaa rfl (fun K hK=> ?_);go_simp;((first|(go_at_call 131;refine(qfv _ _).monoR ?_;rintro w1 hb1 hc1 hf1 hz1;(try simp at hz1);have hy0:=ol1 w w1)|skip)<;>(refine hK.out _ _ bel ?_;clear hK K))))
     (all_goals try simp only [Act.put,lsi,lsz,lss]);all_goals(refine qad ?_)
     go_wp2_with (first|(go_at_call 89;refine(qo2 B 1 c 1 A l _ (hl.tr bel hB) (bsz w hB) oQ oQ).monoR ?_;rintro w1 hb1 hc1 hf1 hz1;(try simp at hz1);have hy0:=ol1 w w1)|(go_at_call 117;refine(qfo _ _ _ _ _).monoR ?_;rintro w1 hb1 hc1 hf1 hz1;(try simp at hz1);have hy0:=ol1 w w1))
     go_ret;exact⟨_,rfl,.inl (by rw [HF.out];rfl),bel⟩
   · have HF:Hid (ckOb ⟨1,l⟩=3):=by simp [Hid,ckOb,hl.1,h]
     have hne:¬ (n:Int)=1:=oQ
     go_enter Tryz.func88,Tryz.ntmps88
     go_wp2_with fail;refine qac kr kr pq ?_
     simp only [zdy,zey,ldz,lds,bare,qal,lcz,lcs,zay]
     repeat' ((try simp only [Act.put,lsi,lsz,lss]);first|(refine lqx ?_)|(refine qab qaa rfl (fun K hK=> ?_);go_simp;((first|(go_at_call 131;refine(qfv _ _).monoR ?_;rintro w1 hb1 hc1 hf1 hz1;(try simp at hz1);have hy0:=ol1 w w1)|skip)<;>(refine hK.out _ _ bel ?_;clear hK K))))
     (all_goals try simp only [Act.put,lsi,lsz,lss]);all_goals(refine qad ?_)
     go_wp2;go_ret;exact⟨_,rfl,.inl (by rw [HF.out];rfl),bel⟩
 by_cases k2:k=2
 · subst k2
   by_cases h:n=1
   · subst h
     have HF:Hid (ckOb ⟨2,l⟩=qmf (pt l 0)):=by simp [Hid,ckOb,hl.1]
     obtain⟨b,off,rfl,hab,c0,c1⟩:=hl.at_ (k:=0) oQ
     simp only [Nat.zero_mul,Nat.add_zero] at c0 c1;have hbw:b<w.heap.size:=oQ
     have hbw1:b<w.heap.size+1:=oQ
     go_enter Tryz.func88,Tryz.ntmps88
     go_wp2_with fail;refine qac kr kr pq ?_
     simp only [zdy,zey,ldz,lds,bare,qal,lcz,lcs,zay]
     repeat' ((try simp only [Act.put,lsi,lsz,lss]);first|(refine lqx ?_)|(refine qab qaa rfl (fun K hK=> ?_);go_simp;((first|(go_at_call 131;refine(qfv _ _).monoR ?_;rintro w1 hb1 hc1 hf1 hz1;(try simp at hz1);have hy0:=ol1 w w1)|skip)<;>(refine hK.out _ _ bel ?_;clear hK K))))
     (all_goals try simp only [Act.put,lsi,lsz,lss]);all_goals(refine qad ?_)
     go_wp2_with (go_at_call 132;refine(qq1 _ _ _).monoR ?_;rintro w1 hb1 hc1 hf1 hz1;(try simp at hz1);have hy0:=ol1 w w1)
     go_ret;exact⟨_,rfl,.inl (by rw [HF.out];rfl),bel⟩
   · have HF:Hid (ckOb ⟨2,l⟩=3):=by simp [Hid,ckOb,hl.1,h]
     have hne:¬ (n:Int)=1:=oQ
     go_enter Tryz.func88,Tryz.ntmps88
     go_wp2_with fail;refine qac kr kr pq ?_
     simp only [zdy,zey,ldz,lds,bare,qal,lcz,lcs,zay]
     repeat' ((try simp only [Act.put,lsi,lsz,lss]);first|(refine lqx ?_)|(refine qab qaa rfl (fun K hK=> ?_);go_simp;((first|(go_at_call 131;refine(qfv _ _).monoR ?_;rintro w1 hb1 hc1 hf1 hz1;(try simp at hz1);have hy0:=ol1 w w1)|skip)<;>(refine hK.out _ _ bel ?_;clear hK K))))
     (all_goals try simp only [Act.put,lsi,lsz,lss]);all_goals(refine qad ?_)
     go_wp2;go_ret;exact⟨_,rfl,.inl (by rw [HF.out];rfl),bel⟩
 by_cases k3:k=3
 · subst k3
   by_cases h:n=2
   · subst h
     have HF:Hid (ckOb ⟨3,l⟩=qba (qco ⟨3,l⟩)):=by simp [Hid,ckOb,qco,hl.1]
     go_enter Tryz.func88,Tryz.ntmps88
     go_wp2_with fail;refine qac kr kr pq ?_
     simp only [zdy,zey,ldz,lds,bare,qal,lcz,lcs,zay]
     repeat' ((try simp only [Act.put,lsi,lsz,lss]);first|(refine lqx ?_)|(refine qab qaa rfl (fun K hK=> ?_);go_simp;((first|(go_at_call 131;refine(qfv _ _).monoR ?_;rintro w1 hb1 hc1 hf1 hz1;(try simp at hz1);have hy0:=ol1 w w1)|skip)<;>(refine hK.out _ _ bel ?_;clear hK K))))
     (all_goals try simp only [Act.put,lsi,lsz,lss]);all_goals(refine qad ?_)
     go_wp2_with (first|(go_at_call 89;refine(qo2 B 2 c 3 A l _ (hl.tr bel hB) (bsz w hB) oQ oQ).monoR ?_;rintro w1 hb1 hc1 hf1 hz1;(try simp at hz1);have hy0:=ol1 w w1)|(go_at_call 117;refine(qfo _ _ _ _ _).monoR ?_;rintro w1 hb1 hc1 hf1 hz1;(try simp at hz1);have hy0:=ol1 w w1))
     go_ret;exact⟨_,rfl,.inl (by rw [HF.out];rfl),bel⟩
   · have HF:Hid (ckOb ⟨3,l⟩=3):=by simp [Hid,ckOb,hl.1,h]
     have hne:¬ (n:Int)=2:=oQ
     go_enter Tryz.func88,Tryz.ntmps88
     go_wp2_with fail;refine qac kr kr pq ?_
     simp only [zdy,zey,ldz,lds,bare,qal,lcz,lcs,zay]
     repeat' ((try simp only [Act.put,lsi,lsz,lss]);first|(refine lqx ?_)|(refine qab qaa rfl (fun K hK=> ?_);go_simp;((first|(go_at_call 131;refine(qfv _ _).monoR ?_;rintro w1 hb1 hc1 hf1 hz1;(try simp at hz1);have hy0:=ol1 w w1)|skip)<;>(refine hK.out _ _ bel ?_;clear hK K))))
     (all_goals try simp only [Act.put,lsi,lsz,lss]);all_goals(refine qad ?_)
     go_wp2;go_ret;exact⟨_,rfl,.inl (by rw [HF.out];rfl),bel⟩
 by_cases k4:k=4
 · subst k4
   have HF:Hid (ckOb ⟨4,l⟩=qbl l):=by simp [Hid,ckOb]
   go_enter Tryz.func88,Tryz.ntmps88
   go_wp2_with (go_at_call 118;refine(qmg B n c A l _ (hl.tr bel hB) (bsz w hB) hn).mono ?_;rintro e w1 ⟨v1,rfl,hv1,hb1⟩;obtain⟨hc1,hf1,hz1⟩:=bc3 hb1;(try simp at hz1))
   go_ret;exact⟨_,rfl,.inr (by rw [HF.out];exact hv1),bel⟩
 · have HF:Hid (ckOb ⟨k,l⟩=5):=by simp [Hid,ckOb,k1,k2,k3,k4]
   go_enter Tryz.func88,Tryz.ntmps88
   go_wp2;go_ret;exact⟨_,rfl,.inl (by rw [HF.out];rfl),bel⟩
theorem q0z (B n c:Nat) (k:Int) (A:Option Addr) (l:List Pt) (w:World) (hl:qax w B A n l) (hB:B<=w.heap.size) (hn:n<=1000000):
 C9 84 #[obV k A n c] w (RetW w (ckOb ⟨k,l⟩) ⟨#[111,98,106,101,99,116]⟩ k):=by
 go_enter Tryz.func84,Tryz.ntmps84
 go_wp2_with fail;refine qac kr kr pq ?_
 simp only [zdy,zey,ldz,lds,bare,qal,lcz,lcs,zay]
 repeat' ((try simp only [Act.put,lsi,lsz,lss]);first|(refine lqx ?_)|(refine qab qaa rfl (fun K hK=> ?_);go_simp;((first|(go_at_call 88;refine(qgx B n c k A l _ (hl.tr bel hB) (bsz w hB) hn).mono ?_;rintro e w1 ⟨v1,rfl,hv1,hb1⟩;obtain⟨hc1,hf1,hz1⟩:=bc3 hb1;(try simp at hz1))|(go_at_call 72;refine(q00 _ _ _ _ _ hv1).mono ?_;rintro e w2 ⟨v2,rfl,hv2,hb2⟩;obtain⟨hc2,hf2,hz2⟩:=bc3 hb2;(try simp at hz2))|skip)<;>(refine hK.out _ _ bel ?_;clear hK K))))
 (all_goals try simp only [Act.put,lsi,lsz,lss]);all_goals(refine qad ?_)
 go_wp2;go_ret;exact⟨_,rfl,hv2,bel⟩
abbrev quV (k:Int) (b:Bx) (A:Option Addr) (n c:Nat):Value:=.agg #[.int .i64 k,.int .i64 b.lo.x,.int .i64 b.lo.y,.int .i64 b.hi.x,.int .i64 b.hi.y,.slice A n c]
theorem qy0 {w:World} {B n b off k:Nat} {l:List Pt} (hl:qax w B (some ⟨b,off,none⟩) n l) (hk:k<n):
 w.cell? ⟨b,off+(k+1)%n*2,none⟩=some (.int .i64 (nx l k).x)/\w.cell? ⟨b,off+(k+1)%n*2+1,none⟩=some (.int .i64 (nx l k).y):=by
 obtain⟨b',off',e,_,c0,c1⟩:=hl.at_ (k:=(k+1)%n) (Nat.mod_lt _ oQ)
 injection e with e
 injection e with e1 e2
 subst e1 e2
 rw [nx,hl.1]
 exact⟨c0,c1⟩
theorem qku {k n:Nat} (hk:k<n) (hn:n<=1000000):∃m:Nat,(k+1)%n=m/\IntKind.i64.wrap ((k:Int)+1)=(k:Int)+1/\((k:Int)+1).tmod (n:Int)=(m:Int)/\m<n:=by
 refine⟨(k+1)%n,rfl,IntWalk.i64_in _ oQ,?_,Nat.mod_lt _ oQ⟩
 rw [Int.tmod_eq_emod_of_nonneg oQ,Int.natCast_emod]
 rfl
theorem qtc {k:Int} {l:List Pt} (h:ckOb ⟨k,l⟩=0):(k=1\/k=2->1<=l.length)/\(k=3->2<=l.length)/\l.length<=64/\(qdi ⟨k,l⟩=false->qbl l=0):=by
 by_cases k1:k=1
 · subst k1
   have h1:l.length=1:=by
    by_cases e:l.length=1
    · exact e
    · simp [ckOb,e] at h
   exact⟨fun _=>by omega,fun h=>by omega,by omega,fun hb=>by simp [qdi] at hb⟩
 by_cases k2:k=2
 · subst k2
   have h1:l.length=1:=by
    by_cases e:l.length=1
    · exact e
    · simp [ckOb,e] at h
   exact⟨fun _=>by omega,fun h=>by omega,by omega,fun hb=>by simp [qdi] at hb⟩
 by_cases k3:k=3
 · subst k3
   have h1:l.length=2:=by
    by_cases e:l.length=2
    · exact e
    · simp [ckOb,e] at h
   exact⟨fun _=>by omega,fun h=>by omega,by omega,fun hb=>by simp [qdi] at hb⟩
 by_cases k4:k=4
 · subst k4
   have h4:qbl l=0:=by simpa [ckOb] using h
   have:=qno h4;exact⟨fun _=>by omega,fun h=>by omega,by omega,fun _=>h4⟩
 · simp [ckOb,k1,k2,k3,k4] at h
theorem qh0 (B n c:Nat) (k:Int) (A:Option Addr) (l:List Pt) (w:World) (hl:qax w B A n l) (hB:B<=w.heap.size) (hn:n<=1000000) (h:ckOb ⟨k,l⟩=0):
 C9 88 #[obV k A n c] w (Ret w .nilIface):=by
 refine(qgx B n c k A l w hl hB hn).mono ?_;rintro e w' ⟨v,he,hv,hb⟩;rw [h] at hv;exact⟨by rw [he,hv.zero],hb⟩
theorem qju (B n c:Nat) (k:Int) (A:Option Addr) (l:List Pt) (w:World) (hl:qax w B A n l) (hB:B<=w.heap.size) (hn:n<=1000000) (h:ckOb ⟨k,l⟩≠0):
 C9 88 #[obV k A n c] w fun e w' =>∃t u,e=.returned (.iface t u)/\Below w.heap.size w w' :=by
 refine(qgx B n c k A l w hl hB hn).mono ?_;rintro e w' ⟨v,he,hv,hb⟩;obtain⟨t,u,rfl⟩:=hv.succ h;exact⟨t,u,he,hb⟩
end Go.Proofs.YteodamnfgcnmmaaGreatDoor

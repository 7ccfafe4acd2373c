/-gist-/
import Derived.Test.YtfnhnjbkkggbeaaGreatHKeyS
import Derived.Test.YtfnhnjbkkggbeaaGreatHGisY
set_option linter.unusedVariables false
set_option linter.unusedSimpArgs false
set_option maxHeartbeats 4000000
set_option maxRecDepth 20000
namespace Go.Proofs.YtfnhnjbkkggbeaaGreat
open Go Go.RowKit Pg
structure MisZ (w:World) (Z:Nat->Prop) (v:Value) (L:List (Int×Mi)):Prop where
 row:w.ownsRow 0 42 3 v L.length (qa2 L)
 rz:∀g,v.ownBlock=some g->Z g
 pts:∀p∈L,PtsZ w Z p.2.ov p.2.ob.pts
theorem MisZ.turn {w w' :World} {Z F:Nat->Prop} {v:Value} {L:List (Int×Mi)} (h:MisZ w Z v L) (ht:TurnF F w w') (hF:∀b,Z b->¬ F b):MisZ w' Z v L:=
 ⟨qiw h.row ht fun g hg=>hF g (h.rz g hg),h.rz,fun p hp=>(h.pts p hp).turn ht hF⟩
theorem MisZ.tr {w w' :World} {Z:Nat->Prop} {v:Value} {L:List (Int×Mi)} (h:MisZ w Z v L) (hb:Below w.heap.size w w'):MisZ w' Z v L:=
 h.turn ((TurnF.refl (fun _=>False) w).below hb) fun _ _ q=>q
theorem q17 {w:World} {base B:Nat} {v:Value} {l:List Pt} (h:w.ownsRow base 46 2 v l.length (qbj l)) (hl:l.length<=1000000) (hB:B<=base):PtsZ w (fun b=>B<=b/\b<w.heap.size) v l:=by
 obtain⟨h2,A,c,e,_,_,h5⟩:=qgu (Z:=fun b=>B<=b/\b<w.heap.size) h hl fun g hg=>⟨zcy hB (h.lt g hg).1,(h.lt g hg).2⟩
 exact⟨h2,A,c,e,h5⟩
theorem q3c {m:List (Int×It)}:((m.map fun p=>(p.1,gP p.2.blk)).map (·.1)).map (fun i=>Value.int .i64 i)=idcs (m.map (·.1)):=by
 simp only [idcs,List.map_map]
 rfl
section
variable {w:World} {own imm:Nat->Prop} {tb mb:Nat} {t:Tr}
theorem q05 {C:Cl} {ct:TypeId} {cv:Value} (h:GAt C (.iface ct cv) w own imm tb mb t) (hcount:t.items.length<=100000):
 C9 18 #[gP tb] w fun e w' =>∃v L,e=.returned v/\obsM L=obsT t.items/\MisZ w' (fun b=>w.heap.size<=b/\b<w'.heap.size) v L/\Below w.heap.size w w' :=by
 obtain⟨t0,t1,t2,t3,tl⟩:=h.lay.c0;have HG:=hdQ (fun W (hW:Below w.heap.size w W)=>qdq (h.lay.tr hW))
 have HM:=hdQ h.lay.mp;have HH:=hdQ h;obtain⟨n,hn⟩:∃n,t.items.length=n:=⟨_,rfl⟩;have HN:=hdQ hn;have hn1:n<=100000:=oQ
 have HKm:=hdQ qzu
 have HSo:=hdQ (fun W Bm (hW:Below w.heap.size w W) (hB:Bm<W.heap.size) (hc:W.cell? ⟨Bm,0,none⟩=some (.map (some mb)))=>by
  have h1:=qrt Bm mb _ W (qbk.tr h.lay.mp hW) (by rw [zyy];omega) (by
   unfold qcq
   rw [List.pairwise_map]
   exact h.shape.rise) hB hc
  rw [zyy,hn,q3c] at h1
  exact h1)
 obtain⟨i0,hi,iz0,iz1,iz2⟩:=info_parts Tryz.infoMiM;clear h hn
 simp only [gP] at*
 go_enter Tryz.func18,Tryz.ntmps18
 go_wp2_with (first
  | (go_at_call 25;(with_reducible refine(HG.out _ bel).monoR ?_);rintro wg hbg hcg hfg hzg;(try simp at hzg))
  | (go_at_call 39;(refine(HKm.out _ _).mono ?_);rintro e wk ⟨Bm,rfl,hBm,hcm,hbk⟩;obtain⟨hck,hfk,hzk⟩:=bc3 hbk;(try simp at hzk))
  | (go_at_call 29;(refine(HSo.out _ _ bel hBm hcm).mono ?_);rintro e ws ⟨vs,rfl,hos,hbs⟩;obtain⟨As,cs,rfl,_,_,_⟩:=qaq hos;have HOs:=hdQ hos;clear hos;obtain⟨hcs,hfs,hzs⟩:=bc3 hbs;(try simp at hzs)))
 have HBs:=hdQ (show Below w.heap.size w ws from bel)
 have hzw:=HBs.out.size;clear hcg hfg hbg hzg hck hfk hbk hzk hcs hfs hbs hzs t0 t1 t2 t3 HKm HSo HG
 go_loopw [2,14] (fun v2 vi wr=>∃(i c2:Nat) (A2:Option Addr) (Li:List (Int×Mi)),v2=.slice A2 i c2/\vi=.int .i64 i/\i<=n/\obsM Li=(obsT t.items).take i/\Li.length=i/\wr.ownsRow w.heap.size 42 3 (.slice A2 i c2) i (qa2 Li)/\(∀p∈Li,p.2.ob.pts.length<=1000000/\wr.ownsRow w.heap.size 46 2 p.2.ov p.2.ob.pts.length (qbj p.2.ob.pts))/\wr.ownsRow 0 3 1 (.slice As n cs) n (idcs (t.items.map (·.1)))/\Below w.heap.size w wr) (fun _ vi _=>n-(Go.RowKit.intOf vi).toNat)
 case atStart=>exact ⟨0,0,none,[],rfl,rfl,zly _,by simp [obsM],rfl,World.ownsRow_nil _ _ _ _,by simp,qa5 HOs.out (zly _),HBs.out⟩
 case round=>
  clear HOs HBs;obtain⟨i,c2,A2,Li,rfl,rfl,hin,hLi,hLl,hro,hps,hks,hb⟩:=hrel
  by_cases hlt:i<n
  case neg=>
   obtain rfl:n=i:=oQ
   rw [zmy (by unfold obsT;rw [zyy,HN.out];exact zhy _)] at hLi
   have HE:=hdQ (show ∃v L,Value.slice A2 n c2=v/\obsM L=obsT t.items/\MisZ wr (fun b=>w.heap.size<=b/\b<wr.heap.size) v L/\Below w.heap.size w wr from ⟨_,Li,rfl,hLi,⟨qa5 (by rw [hLl];exact hro) (zly _),fun g hg=>hro.lt g hg,fun p hp=>q17 (hps p hp).2 (hps p hp).1 (zhy _)⟩,hb⟩)
   clear hLi hLl hro hps hks hb;go_wp2_with fail;go_ret;obtain⟨v,L,rfl,h1,h2,h3⟩:=HE.out;exact⟨_,L,rfl,h1,h2,h3⟩
  case pos=>
   have hltI:(i:Int)<(n:Int):=oQ
   have hzb:=hb.size;obtain⟨⟨id,x⟩,hx⟩:∃p,t.items[i]? =some p:=⟨t.items[i]'(by rw [HN.out];exact hlt),zby _⟩
   have hget:=qfl HH.out.shape.rise (zjy hx);obtain⟨hid,hck,_⟩:=HH.out.its id x hget;have HNk:=hdQ (qdl hget);have hL:=HH.out.lay.tr hb;obtain⟨z,hBi,_⟩:=hL.it id x hget;have ilt:=hBi.lt;obtain⟨Ap,cp,ep,_,_,hpts⟩:=(hL.ikey id x hget).2.pts;have hpl:0<x.ob.pts.length:=q4f (k:=x.ob.kind) (l:=x.ob.pts) hck;have hpm:x.ob.pts.length<=1000000:=by have:=(hL.ikey id x hget).2.1;exact this
   have HOw:=hdQ (fun W (hW:Below wr.heap.size wr W)=>qse wr.heap.size x.ob.pts.length cp x.ob.kind Ap x.ob.pts W (hpts.below hW) hW.size hpl hpm)
   have i0' :=hBi.cell 0;have i1' :=hBi.cell 1
   simp only [lta,lcz,lcs] at i0' i1'
   rw [ep] at i1'
   obtain⟨t0,t1,t2,t3,tl'⟩:=hL.c0
   rcases hks.2 with ⟨_,h0⟩|⟨g,cap,cur,e,_,hg,_⟩
   · omega
   injection e with e1 e2 e3
   subst e1 e3;have gi:=hks.cellAt i oQ
   rw [show (idcs (t.items.map (·.1)))[i]? =some (.int .i64 id) by unfold idcs;rw [zpx,zpx,hx];rfl] at gi
   have gl:g<wr.heap.size:=(zqy.1 hg).1;have HMr:=hdQ (qbk.tr HM.out hb);have hid0: -9223372036854775808<=id:=oQ
   have hid1:id<=9223372036854775807:=oQ
   have HS:=hdQ (And.intro hro (And.intro hps (And.intro hks (And.intro hb (And.intro hLi (And.intro hLl hx))))));have HPM:=hdQ (And.intro hpl hpm);clear hx hget hid hck hL hBi ep hpts hpl hro hps hks hb hLi hLl hg
   simp only [gP] at*
   go_wp2_with (first
    | (at_lookup;go_must (refine qdd _ rfl _ _ _ rfl rfl rfl (show MapO _ _ _ (some mb) _ from qbk.tr HMr.out bel) Tryz.underlying3 Tryz.underlying80 (Tryz.zeroItG _) hid0 hid1 ?_;rw [HNk.out];simp only [Option.getD_some,gP]))
    | (go_at_call 40;(refine(HOw.out _ bel).mono ?_);rintro e w4 ⟨g4,c4,rfl,ho4,hb4⟩;have H4:=hdQ (And.intro ho4 (show Below wr.heap.size wr w4 from bel));clear ho4;obtain⟨hc4,hf4,hz4⟩:=bc3 hb4;(try simp at hz4))
    | (at_builtin;go_must (refine wpList_append_own _ rfl _ _ 22 rfl w.heap.size 42 i0 (.agg #[.int .i64 0,.int .i64 0,.slice none 0 0]) 3 40 Tryz.underlying22 hi iz0 iz1 iz2 rfl dE _ _ _ rfl (qam HS.out.1 (qag bel) sI) _ _ _ _ rfl rfl qxy ?c2 ?c3 ?c4 ?c5 ?_)))
   case c2=>simp [Value.oneCell']
   case c3=>unfold maxLen;omega
   case c4=>omega
   case c5=>first|omega|(simp;omega)
   intro v7 w7 hown hgrow _;obtain⟨A7,c7,rfl,_,_,_⟩:=qaq hown;obtain⟨hro,hps,hks,hb,hLi,hLl,hx⟩:=HS.out;have hbA:=H4.out.2.alloc H4.out.2.size (.cells #[.int .i64 id,.int .i64 x.ob.kind,.slice (some ⟨g4,0,none⟩) x.ob.pts.length c4] 42)
   have hne:∀{base size m:Nat} {e:TypeId} {v:Value} {xs:List Value},wr.ownsRow base e size v m xs->e≠42->∀g,(Value.slice A2 i c2).ownBlock=some g->v.ownBlock≠some g:=fun hv he g q=>by
    obtain⟨cur,hB⟩:=qh9 hro q;exact qfi hv hB he
   have h4:w7.ownsRow w.heap.size 46 2 (.slice (some ⟨g4,0,none⟩) x.ob.pts.length c4) x.ob.pts.length (qbj x.ob.pts):=by
    refine qa5 (qam (qam H4.out.1 (World.grownBy_alloc w4 _ none) sI) hgrow fun g q=> ?_) oQ
    obtain⟨cur,hB⟩:=qh9 hro q;exact qfi (qam H4.out.1 (World.grownBy_alloc w4 _ none) sI) (hB.tr hbA) dE
   have H7:=hdQ (show obsM (Li++ [(id,⟨x.ob,.slice (some ⟨g4,0,none⟩) x.ob.pts.length c4⟩)])=(obsT t.items).take (i+1)/\w7.ownsRow w.heap.size 42 3 (.slice A7 (i+1) c7) (i+1) (qa2 (Li++ [(id,⟨x.ob,.slice (some ⟨g4,0,none⟩) x.ob.pts.length c4⟩)]))/\(∀p∈Li++ [(id,(⟨x.ob,.slice (some ⟨g4,0,none⟩) x.ob.pts.length c4⟩:Mi))],p.2.ob.pts.length<=1000000/\w7.ownsRow w.heap.size 46 2 p.2.ov p.2.ob.pts.length (qbj p.2.ob.pts))/\w7.ownsRow 0 3 1 (.slice (some ⟨g,0,none⟩) n cs) n (idcs (t.items.map (·.1)))/\Below w.heap.size w w7 from by
    refine⟨?_,?_,?_,qam (qam hks (qag hbA) sI) hgrow (hne hks dE),(hb.trans (hbA.mono hzb)).grown hgrow (by simp;omega) fun k q=>(hro.lt k q).1⟩
    · have h1:(obsT t.items)[i]? =some (id,x.ob):=by unfold obsT;rw [zpx,hx];rfl
      rw [zwy,h1,<-hLi]
      simp [obsM]
    · rw [qdi]
      exact hown
    · intro p hp
      rcases List.mem_append.1 hp with q|q
      · exact⟨(hps p q).1,qam (qam (hps p q).2 (qag hbA) sI) hgrow (hne (hps p q).2 dE)⟩
      · rw [zhx.1 q]
        exact⟨HPM.out.2,h4⟩)
   have HLl:=hdQ hLl;clear hown hgrow hro hps hks hb hLi hLl hx hbA hne h4;go_wp2_with fail
   go_roundw
   case rel=>exact ⟨i+1,c7,A7,_,rfl,by go_num,by omega,H7.out.1,by rw [zny,HLl.out];rfl,H7.out.2.1,H7.out.2.2.1,H7.out.2.2.2.1,H7.out.2.2.2.2⟩
   case measure=>simp [Go.RowKit.intOf];omega
theorem qxi {C:Cl} {ct:TypeId} {cv:Value} {n:Nat} (h:GAt C (.iface ct cv) w own imm tb mb t) (hcount:t.items.length<=100000) (hn:t.items.length=n) (W:World) (hW:Below w.heap.size w W):
 C9 18 #[gP tb] W fun e w' =>∃A c L,e=.returned (.slice A n c)/\obsM L=obsT t.items/\L.length=n/\MisZ w' (fun b=>w.heap.size<=b/\b<w'.heap.size) (.slice A n c) L/\Below W.heap.size W w' :=by
 refine(q05 (h.tr hW) hcount).mono ?_;rintro e w' ⟨v,L,rfl,ho,hm,hb⟩
 have hl:L.length=n:=by
  have:=congrArg List.length ho;unfold obsM obsT at this;rw [zyy,zyy] at this
  omega
 obtain⟨A,c,rfl,_,_,_⟩:=qaq hm.row;rw [hl] at hm;exact⟨A,c,L,by rw [hl],ho,hl,⟨hm.row,fun g q=>⟨zcy hW.size (hm.rz g q).1,(hm.rz g q).2⟩,fun p hp=>(hm.pts p hp).more fun b _ q=>⟨zcy hW.size q.1,q.2⟩⟩,hb⟩
end
end Go.Proofs.YtfnhnjbkkggbeaaGreat
namespace Go.Proofs.YtfnhnjbkkggbeaaGreat
open Go.RowKit Pg
def qjo (l l' :List Pt):Bool:=decide (l.length=l'.length)&&(List.range l.length).all fun i=>decide (pt l i=pt l' i)
theorem qym {l l' :List Pt} (h:¬ l.length=l'.length):qjo l l' =false:=by unfold qjo;rw [decide_eq_false h];rfl
theorem qyl {l l' :List Pt} (h:l.length=l'.length) (ha:∀j,j<l.length->pt l j=pt l' j):qjo l l' =true:=by
 unfold qjo
 rw [decide_eq_true h,Bool.true_and,List.all_eq_true]
 intro i hi;exact decide_eq_true (ha i (List.mem_range.1 hi))
theorem q44 {l l' :List Pt} {k:Nat} (hk:k<l.length) (ha:¬ pt l k=pt l' k):qjo l l' =false:=by
 unfold qjo
 cases hd:(List.range l.length).all fun i=>decide (pt l i=pt l' i)
 · rw [Bool.and_false]
 · rw [List.all_eq_true] at hd
   exact absurd (of_decide_eq_true (hd k (List.mem_range.2 hk))) ha
def qrx (k k' :Int) (l l' :List Pt):Bool:=decide (k=k')&&qjo l l'
theorem qr0 (B n c n' c' :Nat) (A A' :Option Addr) (l l' :List Pt) (w:World) (hl:qak w B A n l) (hl' :qak w B A' n' l') (hB:B<=w.heap.size) (hn:n<=1000000):
 C9 67 #[.slice A n c,.slice A' n' c'] w (Ret w (.bool (qjo l l'))):=by
 by_cases hne:n=n'
 case neg=>
  have HF:Hid (qjo l l' =false):=qym (by rw [hl.1,hl'.1];exact hne)
  have hd:¬ (n:Int)=(n' :Int):=oQ
  go_enter Tryz.func67,Tryz.ntmps67
  go_wp2;go_ret;exact⟨qaf HF.out.symm,bel⟩
 subst hne
 go_enter Tryz.func67,Tryz.ntmps67
 go_wp2
 go_loopw [5] (fun i wr=>∃k:Nat,k<=n/\i=.int .i64 k/\Hid (∀j,j<k->pt l j=pt l' j)/\Below w.heap.size w wr) (fun i _=>n-(intOf i).toNat)
 case atStart=>exact ⟨0,zly _,rfl,fun j hj=>by omega,bel⟩
 case round=>
  obtain⟨k,hk,rfl,hno,hb⟩:=hrel
  by_cases hlt:k<n
  · obtain⟨b,off,rfl,hab,c0,c1⟩:=(hl.below (hb.mono hB)).at_ hlt
    obtain⟨b',off',rfl,hab',d0,d1⟩:=(hl'.below (hb.mono hB)).at_ hlt;have hbs:=hb.size;have hbw:b<wr.heap.size:=oQ
    have hbw' :b' <wr.heap.size:=oQ
    have hk0:(k:Int)<(n:Int):=oQ
    by_cases he:pt l k=pt l' k
    · have ex:(pt l' k).x=(pt l k).x:=by rw [he]
      have ey:(pt l' k).y=(pt l k).y:=by rw [he]
      rw [ex] at d0;rw [ey] at d1;have HE:=hdQ he;clear he ex ey;go_wp2_with fail;refine qac kr kr pq ?_
      simp only [zdy,zey,ldz,lds,bare,qaj,lcz,lcs,zay]
      repeat' ((try simp only [Act.put,lsi,lsz,lss]);first|(refine lqx ?_)|(refine qab qaa rfl (fun K hK=> ?_);go_simp;((first|fail|skip)<;>(refine hK.out _ _ bel ?_;clear hK K))))
      (all_goals try simp only [Act.put,lsi,lsz,lss]);all_goals(refine qad ?_)
      go_wp2
      go_roundw
      case rel=>exact ⟨k+1,by omega,by go_num,fun j hj=>by
       by_cases e:j=k
       · subst e;exact HE.out
       · exact hno.out j oQ,bel⟩
      case measure=>simp [intOf];omega
    · have HF:Hid (qjo l l' =false):=q44 (k:=k) (by rw [hl.1];exact hlt) he
      have hne:¬ ((pt l k).x=(pt l' k).x/\(pt l k).y=(pt l' k).y):=fun h=>he (Pt.ext' h.1 h.2)
      have k1:¬ (pt l k).x=(pt l' k).x\/((pt l k).x=(pt l' k).x/\¬ (pt l k).y=(pt l' k).y):=oQ
      clear he hne
      rcases k1 with k1|⟨k0,k1⟩
      all_goals
       go_wp2_with fail;refine qac kr kr pq ?_
       simp only [zdy,zey,ldz,lds,bare,qaj,lcz,lcs,zay]
       repeat' ((try simp only [Act.put,lsi,lsz,lss]);first|(refine lqx ?_)|(refine qab qaa rfl (fun K hK=> ?_);go_simp;((first|fail|skip)<;>(refine hK.out _ _ bel ?_;clear hK K))))
       (all_goals try simp only [Act.put,lsi,lsz,lss]);all_goals(refine qad ?_)
       go_wp2;go_ret;exact⟨qaf HF.out.symm,bel⟩
  · have HF:Hid (qjo l l' =true):=qyl (by rw [hl.1,hl'.1]) fun j hj=>hno.out j (by rw [hl.1] at hj;omega)
    go_wp2;go_ret;exact⟨qaf HF.out.symm,bel⟩
theorem qyg (B n c n' c' :Nat) (k k' :Int) (A A' :Option Addr) (l l' :List Pt) (w:World) (hl:qak w B A n l) (hl' :qak w B A' n' l') (hB:B<=w.heap.size) (hn:n<=1000000):
 C9 38 #[obV k A n c,obV k' A' n' c'] w (Ret w (.bool (qrx k k' l l'))):=by
 by_cases hk:k=k'
 · subst hk
   have HF:Hid (qrx k k l l' =qjo l l'):=by unfold Hid qrx;rw [decide_eq_true rfl];rfl
   go_enter Tryz.func38,Tryz.ntmps38
   go_wp2_with (go_at_call 67;refine(qr0 B n c n' c' A A' l l' _ (hl.tr bel hB) (hl'.tr bel hB) (bsz w hB) hn).monoR ?_;rintro w1 hb1 hc1 hf1 hz1;(try simp at hz1);have hy0:=ol1 w w1)
   go_ret;exact⟨qaf HF.out.symm,bel⟩
 · have HF:Hid (qrx k k' l l' =false):=by unfold Hid qrx;rw [decide_eq_false hk];rfl
   go_enter Tryz.func38,Tryz.ntmps38
   go_wp2;go_ret;exact⟨qaf HF.out.symm,bel⟩
open Go
theorem qr9 (l:List Pt):qjo l l=true:=qyl rfl fun j hj=>rfl
theorem qzf {w:World} {Z:Nat->Prop} {v:Value} {L:List (Int×Mi)} (h:MisZ w Z v L) {k:Nat} {p:Int×Mi} (hk:L[k]? =some p):
 ∃g c A c',v=.slice (some ⟨g,0,none⟩) L.length c/\g<w.heap.size/\w.cell? ⟨g,k*3,none⟩=some (.int .i64 p.1)/\w.cell? ⟨g,k*3+1,none⟩=some (.int .i64 p.2.ob.kind)/\w.cell? ⟨g,k*3+2,none⟩=some (.slice A p.2.ob.pts.length c')/\qak w w.heap.size A p.2.ob.pts.length p.2.ob.pts/\p.2.ob.pts.length<=1000000:=by
 obtain⟨g,c,e,hg,h0,h1,h2⟩:=qsh h.row hk;have hp:=h.pts p (zjy hk);obtain⟨A,c',e2,h3⟩:=hp.pts;rw [e2] at h2;exact⟨g,c,A,c',e,hg,h0,h1,h2,h3,hp.1⟩
theorem qpt (A A2:Option Addr) (c c2 n:Nat) (L L2:List (Int×Mi)) (Z Z2:Nat->Prop) (w:World) (h:MisZ w Z (.slice A n c) L) (h2:MisZ w Z2 (.slice A2 n c2) L2) (hL:L.length=n) (he:obsM L=obsM L2) (hn:n<=1000000):
 C9 17 #[.slice A n c,.slice A2 n c2] w (Ret w (.bool true)):=by
 have hL2:L2.length=n:=by
  have:=congrArg List.length he;unfold obsM at this;rw [zyy,zyy] at this
  omega
 have H1:=hdQ h;have H2:=hdQ h2;have HE:=hdQ he;have HN:=hdQ (And.intro hL hL2);clear h h2 he hL hL2
 go_enter Tryz.func17,Tryz.ntmps17
 go_wp2_with fail
 go_loopw [5] (fun vi wr=>∃k:Nat,k<=n/\vi=.int .i64 k/\Below w.heap.size w wr) (fun vi _=>n-(Go.RowKit.intOf vi).toNat)
 case atStart=>exact ⟨0,by omega,rfl,bel⟩
 case round=>
  obtain⟨k,hk,rfl,hb⟩:=hrel
  by_cases hlt:k<n
  · have hk1:(k:Int)<(n:Int):=oQ
    obtain⟨p,hp⟩:∃x,L[k]? =some x:=⟨_,zby (by rw [HN.out.1];exact hlt)⟩
    obtain⟨p2,hp2⟩:∃x,L2[k]? =some x:=⟨_,zby (by rw [HN.out.2];exact hlt)⟩
    have hee:p.1=p2.1/\p.2.ob=p2.2.ob:=by
     have:=congrArg (fun l=>l[k]?) HE.out
     simp only [obsM,zpx,hp,hp2,Option.map_some,Option.some.injEq,Prod.mk.injEq] at this;exact this
    obtain⟨g,cg,Ap,cp,ev,hgl,r0,r1,r2,hpp,hpl⟩:=qzf (H1.out.tr hb) hp;obtain⟨g2,cg2,Ap2,cp2,ev2,hgl2,s0,s1,s2,hpp2,hpl2⟩:=qzf (H2.out.tr hb) hp2;injection ev with ev1 ev1b ev1c
    injection ev2 with ev2a ev2b ev2c
    subst ev1 ev2a;obtain⟨he1,he2⟩:=hee
    have HS:=hdQ (fun W (hW:Below wr.heap.size wr W)=>show C9 38 #[obV p.2.ob.kind Ap p.2.ob.pts.length cp,obV p2.2.ob.kind Ap2 p2.2.ob.pts.length cp2] W (Ret W (.bool true)) from by
     have:=qyg wr.heap.size p.2.ob.pts.length cp p2.2.ob.pts.length cp2 p.2.ob.kind p2.2.ob.kind Ap Ap2 p.2.ob.pts p2.2.ob.pts W (hpp.below hW) (hpp2.below hW) hW.size hpl
     rw [show qrx p.2.ob.kind p2.2.ob.kind p.2.ob.pts p2.2.ob.pts=true from by rw [<-he2];unfold qrx;rw [decide_eq_true rfl,qr9];rfl] at this
     exact this)
    rw [<-he1] at s0;clear hp hp2 hpp hpp2 ev1b ev1c ev2b ev2c he1 he2 hpl hpl2;generalize p.1=i1 at*;generalize p.2.ob.kind=k1 at*;generalize p2.2.ob.kind=k2 at*;generalize p.2.ob.pts.length=n1 at*;generalize p2.2.ob.pts.length=n2 at*
    simp only [obV] at*
    go_wp2_with fail;refine qac kr kr pq ?_
    simp only [zdy,zey,ldz,lds,bare,qaj,lcz,lcs,zay]
    repeat' ((try simp only [Act.put,lsi,lsz,lss]);first|(refine qbo ?_ ?_;focus(simp only [lAq,zgy,zfy];done))|(refine qa8 ?_ ?_ ?_;(focus(simp only [lAq,zgy,zfy];done));(focus(exact bel)))|(refine qax (X:= ?_) ?_ ?_ (fun hg=> ?_) (fun hg=> ?_);rotate_left;(focus(simp only [lAq];with_reducible rfl));(focus(exact bel));all_goals(try simp only [zgy,zfy] at hg))|(refine lqx ?_)|(refine qab qaa rfl (fun K hK=> ?_);go_simp;((first |  (go_at_call 38;(refine(HS.out _ bel).monoR ?_);rintro ws hbs hcs hfs hzs;(try simp at hzs))|skip)<;>(refine hK.out _ _ bel ?_;clear hK K))))
    (all_goals try simp only [Act.put,lsi,lsz,lss]);all_goals(refine qad ?_)
    go_wp2_with fail
    go_roundw
    case rel=>exact ⟨k+1,by omega,by go_num,bel⟩
    case measure=>simp [Go.RowKit.intOf];omega
  · obtain rfl:n=k:=oQ
    go_wp2_with fail;go_ret;exact⟨rfl,bel⟩
theorem qqj (B n c top:Nat) (A:Option Addr) (L:List (Int×Ob)) (w:World) (hl:qeo w B A n L) (hB:B<=w.heap.size) (hn:n<=9223372036854775807) (ht:top<1099511627776):
 C9 5 #[.slice A n c,.int .i64 top] w fun e w' =>∃t:Nat,e=.returned (.int .i64 t)/\(t<=top->n<=top/\∀p∈L,p.2.pts.length<=top)/\Below w.heap.size w w' :=by
 have hLn:=hl.1;have HL:=hdQ hl;clear hl
 go_enter Tryz.func5,Tryz.ntmps5
 go_wp2_with (go_at_call 22;(with_reducible refine(q1i _ n 3 _ ?_).mono ?_);(focus exact blkA);rintro e w1 ⟨rfl,rfl⟩)
 go_loopw [5,6] (fun vn vi wr=>∃k m:Nat,k<=n/\vi=.int .i64 k/\vn=.int .i64 m/\m<=1099511627776/\(m<=top->n<=top)/\(m<=top->∀l∈L.take k,l.2.pts.length<=top)/\Below w.heap.size w wr) (fun _ vi _=>n-(Go.RowKit.intOf vi).toNat)
 case atStart=>exact ⟨0,_,by omega,rfl,rfl,(qk4 _ _ dE).2,fun h=>by have:=qg9 [n] 0 dE oQ;simp at this;omega,fun _ l hl=>by simp at hl,bel⟩
 case round=>
  obtain⟨k,m,hk,rfl,rfl,hm,hnt,hs,hb⟩:=hrel
  by_cases hlt:k<n
  · have hk1:(k:Int)<(n:Int):=oQ
    by_cases hmt:m<=top
    · have hmt1:(m:Int)<=(top:Int):=oQ
      obtain⟨b,off,p,A',n',c',rfl,hab,hx,q0,q1,q2,hpt⟩:=(HL.out.below (hb.mono hB)).at_ hlt;have hbw:b<wr.heap.size:=by have:=hb.size;omega
      have HNT:=hdQ (hnt hmt);have hS:=hdQ (And.intro (hs hmt) (And.intro hx hpt.1));have hM:=hdQ hm;obtain⟨m',hm'⟩:∃m',sumS m [n']=m' :=⟨_,rfl⟩;have HM' :=hdQ hm';have HSS:=hdQ (fun g t w hg=>qro g m n' t w hg hm)
      rw [hm'] at HSS;clear hs hm hm' hpt hx hnt
      go_wp2_with (go_at_call 22;(with_reducible refine(HSS.out _ 3 _ ?_).mono ?_);(focus exact blkA);rintro e w1 ⟨rfl,rfl⟩)
      go_roundw
      case rel=>
       refine⟨k+1,m',by omega,by go_num,rfl,by rw [<-HM'.out];exact(qk4 _ _ hM.out).2,fun _=>HNT.out,fun h l hl=> ?_,bel⟩
       obtain⟨h1,h2,h3⟩:=hS.out;rw [zwy,h2] at hl
       rcases List.mem_append.1 hl with hl|hl
       · exact h1 l hl
       · simp at hl
         subst hl;have:=qg9 [n'] m hM.out (by rw [HM'.out];omega)
         rw [HM'.out] at this
         simp at this
         omega
      case measure=>simp [Go.RowKit.intOf];omega
    · have hmt1:¬ (m:Int)<=(top:Int):=oQ
      clear hs hnt;go_wp2_with fail;go_ret;exact⟨m,rfl,fun h=>absurd h hmt,hb⟩
  · obtain rfl:n=k:=oQ
    rw [zmy oQ] at hs
    have HS:=hdQ (show m<=top->n<=top/\∀p∈L,p.2.pts.length<=top from fun h=>⟨hnt h,hs h⟩)
    clear hs hnt;go_wp2_with fail;go_ret;exact⟨m,rfl,HS.out,hb⟩
end Go.Proofs.YtfnhnjbkkggbeaaGreat
